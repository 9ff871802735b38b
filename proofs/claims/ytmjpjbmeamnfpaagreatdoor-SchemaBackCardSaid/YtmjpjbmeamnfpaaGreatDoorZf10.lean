/- Lemmas for the card. -/
import Derived.Test.YtmjpjbmeamnfpaaGreatDoorZf9
set_option linter.unusedVariables false
set_option linter.unusedSimpArgs false
namespace Go.Eng
open Go.RowKit
def CV(x:Nat):Bool:=BG (x:Int)
theorem bN(x:Nat):CV x=true↔48<=x/\x<=57:=by unfold CV BG;simp;omega
theorem zY(x:Nat):CV x=false↔ ¬(48<=x/\x<=57):=by rw[<-bN];simp
theorem kW{s:A1}{i:Nat}(h:i<s.length)(hf:CV (s[i]).toNat=true):Utf8.decode ⟨⟨s⟩⟩ i=((s[i]).toNat,1):=by
 have:=decode_ascii ⟨⟨s⟩⟩ i h (by have:=(bN _).1 hf;show(s[i]).toNat<128;omega)
 exact this
theorem zZ{s:A1}{i:Nat}(h:i<s.length)(hf:CV (s[i]).toNat=false):CV (Utf8.decode ⟨⟨s⟩⟩ i).1=false:=by
 rcases Nat.lt_or_ge (s[i]).toNat 128 with hl|hl
 ·have:=decode_ascii ⟨⟨s⟩⟩ i h hl
  rw[this];exact hf
 ·have:=decode_high ⟨⟨s⟩⟩ i h hl
  rw[zY];omega
theorem kX(s:A1): ∀(f pos:Nat),s.length<=pos+f->(∀(j:Nat) (h:j<s.length),pos<=j->CV (s[j]).toNat=true)->Lib.idxFuncFrom CV false ⟨⟨s⟩⟩ f pos= -1
 |0,_,_,_=>rfl
 |f+1,pos,hl,ha=>by
  unfold Lib.idxFuncFrom
  by_cases h:pos<s.length
  ·rw[if_pos (show pos<(ByteArray.mk ⟨s⟩).size from h),kW h (ha pos h (Nat.le_refl _)),if_neg (by rw[ha pos h (Nat.le_refl _)];simp)]
   exact kX s f (pos+1) (by omega) (λ j hj hp=>ha j hj (by omega))
  ·rw[if_neg (show ¬pos<(ByteArray.mk ⟨s⟩).size from h)]
theorem kY(s:A1): ∀(f pos:Nat),s.length<=pos+f->(∃(j:Nat) (h:j<s.length),pos<=j/\CV (s[j]).toNat=false)-> ∃(i:Nat) (h:i<s.length),Lib.idxFuncFrom CV false ⟨⟨s⟩⟩ f pos=(i:Int)/\CV (s[i]).toNat=false
 |0,pos,hl,⟨j,hj,hp,_⟩=>by omega
 |f+1,pos,hl,⟨j,hj,hp,hn⟩=>by
  unfold Lib.idxFuncFrom
  have h:pos<s.length:=by omega
  rw[if_pos (show pos<(ByteArray.mk ⟨s⟩).size from h)]
  cases hf:CV (s[pos]).toNat with
  |true=>
   rw[kW h hf,if_neg (by rw[hf];simp)]
   have hne:pos≠j:=by intro e;subst e;rw[hf]at hn;cases hn
   exact kY s f (pos+1) (by omega) ⟨j,hj,by omega,hn⟩
  |false=>
   rw[if_pos (zZ h hf)]
   exact⟨pos,h,rfl,hf⟩
theorem kZ(t:A1)(h0: ∃h:0<t.length,CV (t[0]).toNat=false): ∀(f i:Nat),0<i->i<=t.length->i<=f->0<=Lib.lastIdxFuncFrom CV false ⟨⟨t⟩⟩ f i
 |0,i,hi,_,hf=>by omega
 |f+1,i,hi,hl,hf=>by
  obtain⟨hz,hn⟩:=h0
  unfold Lib.lastIdxFuncFrom
  rw[if_pos hi]
  show 0<=if CV (Lib.decodeLastL (t.take i)).1=false then _ else _
  split
  ·omega
  ·rename_i hp
   have hp':CV (Lib.decodeLastL (t.take i)).1=true:=by simpa using hp
   have hb:=(bN _).1 hp'
   have hlen:(t.take i).length=i:=by rw[List.length_take];omega
   have hw:Lib.decodeLastL (t.take i)=((t[i-1]'(by omega)).toNat,1):=by
    have hne: ¬t.take i=[]:=by intro e;rw[e]at hlen;simp at hlen;omega
    have hg:(t.take i).getD ((t.take i).length-1) 0=t[i-1]'(by omega):=by
     rw[hlen,List.getD_eq_getElem?_getD,List.getElem?_take,if_pos (by omega)]
     simp[show i-1<t.length from by omega]
    unfold Lib.decodeLastL at hb ⊢
    rw[if_neg hne,hg]at hb ⊢
    by_cases hc:(t[i-1]'(by omega)).toNat<128
    ·rw[if_pos hc]
    ·exfalso
     rw[if_neg hc]at hb
     dsimp only at hb
     split at hb
     ·rename_i hls
      have hsl:Lib.lastStart (t.take i)<(t.take i).length:=by
       rcases Nat.lt_or_ge (Lib.lastStart (t.take i)) (t.take i).length with h|h
       ·exact h
       ·exfalso
        have e0:(t.take i).drop (Lib.lastStart (t.take i))=[]:=by rw[List.drop_eq_nil_iff];exact h
        rw[e0]at hb
        have:(Lib.decodeL []).1=0:=by decide
        omega
      have hd:Utf8.decode ⟨⟨(t.take i).drop (Lib.lastStart (t.take i))⟩⟩ 0=Lib.decodeL ((t.take i).drop (Lib.lastStart (t.take i))):=rfl
      have hdl:0<((t.take i).drop (Lib.lastStart (t.take i))).length:=by rw[List.length_drop];omega
      have hlow:(((t.take i).drop (Lib.lastStart (t.take i)))[0]).toNat<128:=by
       rcases Nat.lt_or_ge (((t.take i).drop (Lib.lastStart (t.take i)))[0]).toNat 128 with h|h
       ·exact h
       ·have:=decode_high ⟨⟨(t.take i).drop (Lib.lastStart (t.take i))⟩⟩ 0 hdl h
        rw[hd]at this;omega
      have hda:=decode_ascii ⟨⟨(t.take i).drop (Lib.lastStart (t.take i))⟩⟩ 0 hdl hlow
      rw[hd]at hda
      rw[hda]at hls
      have e1:Lib.lastStart (t.take i)=i-1:=by rw[hlen]at hls;simp only at hls;omega
      apply hc
      have e2:((t.take i).drop (Lib.lastStart (t.take i)))[0]=t[i-1]'(by omega):=by
       rw[List.getElem_drop,List.getElem_take];first|done|congr 1|(congr 1;omega)
      rw[<-e2];exact hlow
     ·have:Utf8.runeError=65533:=rfl
      simp only[this]at hb;omega
   rw[hw]
   by_cases hi1:i=1
   ·exfalso
    subst hi1
    rw[hw]at hp'
    have:CV (t[0]).toNat=true:=hp'
    rw[hn]at this;cases this
   ·exact kZ t ⟨hz,hn⟩ f (i-1) (by omega) (by omega) (by omega)
theorem bO{s:A1}:HA s=true↔ ∀(j:Nat) (h:j<s.length),CV (s[j]).toNat=true:=by
 have key: ∀(k:Nat) (i:Int),0<=i->(len s-i).toNat<=k->(KP s i=true↔ ∀(j:Nat) (h:j<s.length),i<=(j:Int)->CV (s[j]).toNat=true):=by
  intro k
  induction k with
  |zero=>
   intro i h0 hk
   rw[YT s i (by omega)]
   exact⟨λ _ j h hj=>by unfold len at hk;omega,λ _=>rfl⟩
  |succ k ih=>
   intro i h0 hk
   by_cases hlt:i<len s
   ·obtain⟨hh,he⟩:=sV h0 hlt
    by_cases hf:BG (A2 s i)=true
    ·rw[<-fK s i h0 hlt hf,ih (i+1) (by omega) (by omega)]
     constructor
     ·intro h j hj hij
      by_cases e:(j:Int)=i
      ·have e':j=i.toNat:=by omega
       subst e'
       unfold CV;rw[<-he];exact hf
      ·exact h j hj (by omega)
     ·intro h j hj hij;exact h j hj (by omega)
    ·rw[fL s i h0 hlt hf]
     constructor
     ·intro h;cases h
     ·intro h
      have:=h i.toNat hh (by omega)
      unfold CV at this
      rw[<-he]at this
      exact absurd this hf
   ·rw[YT s i hlt]
    exact⟨λ _ j h hj=>by unfold len at hlt;omega,λ _=>rfl⟩
 have:=key (len s-0).toNat 0 (Int.le_refl 0) (Nat.le_refl _)
 unfold HA
 rw[this]
 exact⟨λ h j hj=>h j hj (by omega),λ h j hj _=>h j hj⟩
theorem WS(l:A1)(i j:Nat):(ByteArray.mk ⟨l⟩).extract i j=ByteArray.mk ⟨(l.drop i).take (j-i)⟩:=by
 have:=ByteArray.extract_mk l i j
 rw[this]
theorem AA0(s:A1):((Lib.trimF CV ⟨⟨s⟩⟩).data.toList==[])=HA s:=by
 rw[Bool.eq_iff_iff,beq_iff_eq]
 have hsz:(ByteArray.mk ⟨s⟩).size=s.length:=rfl
 by_cases ha: ∀(j:Nat) (h:j<s.length),CV (s[j]).toNat=true
 ·refine⟨λ _=>bO.2 ha,λ _=>?_⟩
  have hi:Lib.idxFunc CV false ⟨⟨s⟩⟩= -1:=kX s s.length 0 (by omega) (λ j h _=>ha j h)
  unfold Lib.trimF Lib.trimLeftF
  rw[if_pos hi]
  unfold Lib.trimRightF
  rw[WS []];simp
 ·have hex: ∃(j:Nat) (h:j<s.length),0<=j/\CV (s[j]).toNat=false:=by
   apply Classical.byContradiction
   intro hc
   apply ha
   intro j h
   cases hf:CV (s[j]).toNat with
   |true=>rfl
   |false=>exact absurd ⟨j,h,Nat.zero_le _,hf⟩ hc
  obtain⟨i,hi,he,hn⟩:=kY s s.length 0 (by omega) hex
  refine⟨λ h=>?_,λ h=>absurd (bO.1 h) ha⟩
  exfalso
  have hi':Lib.idxFunc CV false ⟨⟨s⟩⟩=(i:Int):=he
  have ht:Lib.trimLeftF CV ⟨⟨s⟩⟩=⟨⟨s.drop i⟩⟩:=by
   unfold Lib.trimLeftF
   rw[hi',if_neg (by omega),hsz,Int.toNat_natCast,WS,List.take_of_length_le (by rw[List.length_drop];omega)]
  unfold Lib.trimF at h
  rw[ht]at h
  have hpos:0<(s.drop i).length:=by rw[List.length_drop];omega
  have h0: ∃h:0<(s.drop i).length,CV ((s.drop i)[0]).toNat=false:=⟨hpos,by rw[List.getElem_drop];exact hn⟩
  have hlast:0<=Lib.lastIdxFunc CV false ⟨⟨s.drop i⟩⟩:=kZ (s.drop i) h0 (s.drop i).length (s.drop i).length hpos (Nat.le_refl _) (Nat.le_refl _)
  have hend:1<=Lib.rightEndF CV ⟨⟨s.drop i⟩⟩:=by
   unfold Lib.rightEndF
   rw[if_pos hlast]
   by_cases hz:(Lib.lastIdxFunc CV false ⟨⟨s.drop i⟩⟩).toNat=0
   ·rw[hz]
    have e:(ByteArray.mk ⟨s.drop i⟩).extract 0 (ByteArray.mk ⟨s.drop i⟩).size=⟨⟨s.drop i⟩⟩:=by
     rw[WS]
     have:List.take ((s.drop i).length-0) (List.drop 0 (s.drop i))=s.drop i:=by rw[List.drop_zero,Nat.sub_zero,List.take_length]
     exact congrArg (λ l=>(⟨⟨l⟩⟩:ByteArray)) this
    rw[e]
    unfold Lib.decodeGoB
    have hs2:(ByteArray.mk ⟨s.drop i⟩).size=(s.drop i).length:=rfl
    rw[if_neg (by rw[hs2];omega)]
    have:=Lib.decode_width_pos ⟨⟨s.drop i⟩⟩ 0 (by rw[hs2];exact hpos)
    omega
   ·omega
  unfold Lib.trimRightF at h
  rw[WS]at h
  have h2:(List.take (Lib.rightEndF CV ⟨⟨s.drop i⟩⟩-0) (List.drop 0 (s.drop i)))=[]:=h
  rw[List.drop_zero,Nat.sub_zero,List.take_eq_nil_iff]at h2
  rcases h2 with h2|h2
  ·omega
  ·rw[h2]at hpos;simp at hpos
end Go.Eng
set_option maxRecDepth 100000
namespace Go.Proofs.YtmjpjbmeamnfpaaGreatDoor
open Go.Proofs.Tryz
open Go.Eng
theorem l5(r:Int)(w:World):
  Calls prog 117 [(.int .i32 r)].toArray w λ e w'=>e= .returned (.bool (BG r))/\w'=w:=by
 refine CW.BH func117 U ntmps117 (Nat.le_of_ble_eq_true U) λ Q hE=>?_
 refine An [0] (L':=[Y 0 (.int .i32 r)]) ?_ U
 refine Ad (Ab (.assign .c) U (Aa (Ac (Ad ?_))))
 refine Ae U U (Ab (.geq (.t U) .c) U (Ae U U (RL.v (.pos U U) (.move (.t U)) U (RL.v (.pos U U) (.leq (.g U (λ h=>h)) .c) U (Ab (.and (.t U) (.g U (λ h=>h))) U ?_)))))
 refine Aj U U (Aa (Ac ?_))
 refine Ah (hE.r1 U U ?_)
 exact⟨rfl,rfl⟩
theorem TV{cut:A1}(h: ∀b∈cut,b.toNat<128): ∀(j:Nat) (b:UInt8),cut[j]? =some b->b.toNat<128:=λ _ b hb=>h b (List.mem_of_getElem? hb)
theorem l6(s:A1)(w:World)(hg:Gl w)(hb:len s<=9223372036854775807):
  Calls prog 158 [(str s)].toArray w λ e w'=>e= .returned (.bool (HA s))/\Ext w w':=by
 refine CW.BH func158 U ntmps158 (Nat.le_of_ble_eq_true U) λ Q hE=>?_
 have hS:St w nM w nM []:=Ak ⟨λ _ _ _ h=>by cases h⟩
 refine An [0] (L':=[Y 0 (str s)]) ?_ U
 refine Ad (Ab (.assign .c) U (Aa (Ac (Ad ?_))))
 refine Ae U U ?_
 refine RL.D6 hS .none call210 (.cons (.t U) (.cons .f .nil)) (λ _=>(uA 117 CV s _ (hg.low hS.low) call117 (by omega) (λ x w _=>l5 x w))) U (λ w1 hS2=>?_)
 refine Ab (.O1 (.t U) .c) U (Aj U U ?_)
 refine Aa (CW.at [Y 2 (.bool (((Lib.trimF CV ⟨⟨s⟩⟩).data.toList)==[]))] U (Ah (hE.r1 U U ?_)))
 exact⟨by rw[AA0],hS2.low⟩
theorem l7(n x:Int)(w:World)(h:0<=n/\n<=1099511627776):
  Calls prog 160 [(i64 n),(i64 x)].toArray w λ e w'=>e= .returned (.bool (decide (-1000<=x)&&decide (x<=1000)&&decide (n+x<=1000)))/\w'=w:=by
 refine CW.BH func160 U ntmps160 (Nat.le_of_ble_eq_true U) λ Q hE=>?_
 refine An [0,1] (L':=[Y 0 (i64 n),Y 1 (i64 x)]) ?_ U
 refine Ad (Ab (.assign .c) U (Aa (Ac (Ad ?_))))
 refine Ae U U (Ab (.geq (.t U) .c) U (Ae U U (RL.v (.pos U U) (.move (.t U)) U (RL.v (.pos U U) (.leq (.g U (λ h=>h)) .c) U (Ab (.and (.t U) (.g U (λ h=>h))) U ?_)))))
 refine Ae U U (RL.v (.pos U U) (.move (.t U)) U (RL.v (.pos U U) (.move (.t U)) U (RL.v (.pos U U) (.add (.g U (λ h=>h)) (.g U (λ h=>h)) (λ hW=>by simp only[zb]at hW;omega)) U (RL.v (.pos U U) (.leq (.g U (λ h=>h)) .c) U (Ab (.and (.t U) (.g U (λ h=>h))) U ?_)))))
 refine Aj U U (Aa (Ac ?_))
 refine Ah (hE.r1 U U ?_)
 exact⟨by first|rfl|simp[Bool.and_assoc],rfl⟩
theorem AA1{w wv:World}{M0 M:Mem}{Rs:List HO}(s:A1)(p:Int)(bp bs:Nat)(hS:St w M0 wv M (.box bp [(i64 p)] 3:: .box bs [(str s)] 9::Rs))(h0:0<=p)(h1:p<=len s)(hb:len s<=9223372036854775807):
  Calls prog 116 [(.pointer (some ⟨bp,0,none⟩)),(.pointer (some ⟨bs,0,none⟩))].toArray wv λ e w'=> ∃v,e= .returned v/\v=str (Eng.sub s p (AI s p))/\St w M0 w' M (.box bp [i64 (AI s p)] 3:: .box bs [str s] 9::Rs):=by
 refine CW.BH func116 U ntmps116 (Nat.le_of_ble_eq_true U) λ Q hE=>?_
 have hbd:=KQ s p h0 h1
 refine An [0,1] (L':=[Y 0 (.pointer (some ⟨bp,0,none⟩)),Y 1 (.pointer (some ⟨bs,0,none⟩))]) ?_ U
 refine Ad (Ab (.assign .c) U (Aa (Ac (Ad ?_))))
 refine Ab (.B8 (v:=(i64 p)) hS AR (i:=0) U (.t U) isAgg3 U) U (Aj U U (Aa (Ac ?_)))
 refine Ag (Am ?_)
 refine CW.loop (σ:=Int) (λ k=>[Y 0 (.pointer (some ⟨bp,0,none⟩)),Y 1 (.pointer (some ⟨bs,0,none⟩)),Y 3 (i64 p)]) (λ k wl=>St w M0 wl M (.box bp [(i64 k)] 3:: .box bs [(str s)] 9::Rs)/\p<=k/\k<=len s/\AI s k=AI s p) (λ k=>(len s-k).toNat) p [0,1,3] U ?_ ?_
 ·refine⟨hS,?_⟩;exact⟨by omega,by omega,rfl⟩
 ·rintro k wl ⟨hS1,hk0,hk1,hkF⟩
  have hby:=LQ s k
  refine Ag (Ad (Ab (.B8 (v:=(i64 k)) hS1 AR (i:=0) U (.t U) isAgg3 U) U (Ab (.B8 (v:=(str s)) hS1 AR (i:=1) U (.t U) isAgg9 U) U (Ab (.BR (.t U) underlying9) U (Ab (.lss (.t U) (.t U)) U (Ae U U (RL.v (.pos U U) (.B8 (v:=(str s)) hS1 AR (i:=1) U (.t U) isAgg9 U) U (RL.v (.pos U U) (.B8 (v:=(i64 k)) hS1 AR (i:=0) U (.t U) isAgg3 U) U (RL.v (.pos U U) (.C2 (.g U (λ h=>h)) (.g U (λ h=>h)) underlying9 (λ hW=>by simp only[zb]at hW;omega)) U (RL.v (.pos U U) (.BD (r:=A2 s k) (.g U (λ h=>h)) underlying5 underlying21 (λ hW=>by simp only[zb]at hW;exact Eng.wrap_i32 (by omega))) U ?_))))))))))
  refine RL.DC (.pos U U) call117 (.cons (.g U (λ h=>h)) .nil) (λ hW=>by simp only[zb]at hW;exact(l5 (A2 s k) _)) U ?_
  refine Ab (.and (.t U) (.g U (λ h=>h))) U ?_
  refine Aa (CW.at [Y 0 (.pointer (some ⟨bp,0,none⟩)),Y 1 (.pointer (some ⟨bs,0,none⟩)),Y 3 (i64 p),Y 15 (.bool ((decide (k<(len s)))&&(BG (A2 s k))))] U ?_)
  refine Af rfl ?_ ?_<;>intro hb1<;>try simp only[zb]at hb1
  ·refine Ai (Ac (Am ?_))
   refine CW.region (Ab (.B8 (v:=(i64 k)) hS1 AR (i:=0) U (.t U) isAgg3 U) U (Ab (.add (.t U) .c (λ _=>by omega)) U ?_))
   refine RL.st hS1 (i:=0) U (.t U) (.t U) sizeOf3 U U U U U (λ w2 hS3=>?_)
   refine Aa λ a hs=>Exists.intro (k+1) ⟨hs.BC [0,1,3],?_,?_⟩
   ·refine⟨hS3,?_⟩
    exact⟨by omega,by omega,by rw[<-hkF,gH (by omega) (by omega) hb1.2]⟩
   ·show Int.toNat _<Int.toNat _;omega
  ·refine CW.exit (CW.at [Y 0 (.pointer (some ⟨bp,0,none⟩)),Y 1 (.pointer (some ⟨bs,0,none⟩)),Y 3 (i64 p)] U ?_)
   refine Ad (Ab (.B8 (v:=(str s)) hS1 AR (i:=1) U (.t U) isAgg9 U) U (Ae U U (Ab (.B8 (v:=(i64 k)) hS1 AR (i:=0) U (.t U) isAgg3 U) U (Ab (.KM (.t U) (.t U) (.t U) underlying9 (λ _=>by omega)) U (Aj U U (Aa (Ac (Ah (hE.r1 U U ?_)))))))))
   clear hE
   have hk:k=AI s p:=by
    rw[<-hkF]
    by_cases hl:k<len s
    ·exact(gI (by omega) hl (by simp_all)).symm
    ·exact(gJ (by omega)).symm
   subst hk
   exact⟨_,rfl,rfl,hS1⟩
theorem AA2{w wv:World}{M0 M:Mem}{Rs:List HO}(s signs:A1)(p:Int)(bp bs:Nat)(hS:St w M0 wv M (.box bp [(i64 p)] 3:: .box bs [(str s)] 9::Rs))(h0:0<=p)(h1:p<=len s)(hb:len s<9223372036854775807):
  Calls prog 118 [(str signs),(.pointer (some ⟨bp,0,none⟩)),(.pointer (some ⟨bs,0,none⟩))].toArray wv λ e w'=> ∃v,e= .returned v/\v= .bool (BK s signs p)/\St w M0 w' M (.box bp [i64 (B3 s signs p)] 3:: .box bs [str s] 9::Rs):=by
 refine CW.BH func118 U ntmps118 (Nat.le_of_ble_eq_true U) λ Q hE=>?_
 have hby:=LQ s p
 refine An [0,1,2] (L':=[Y 0 (str signs),Y 1 (.pointer (some ⟨bp,0,none⟩)),Y 2 (.pointer (some ⟨bs,0,none⟩))]) ?_ U
 refine Ad (Ab (.assign .c) U (Aa (Ac (Ag ?_))))
 refine Ad (Ab (.B8 (v:=(i64 p)) hS AR (i:=0) U (.t U) isAgg3 U) U (Ab (.B8 (v:=(str s)) hS AR (i:=1) U (.t U) isAgg9 U) U (Ab (.BR (.t U) underlying9) U (Ab (.lss (.t U) (.t U)) U (Ae U U (RL.v (.pos U U) (.move (.t U)) U (RL.v (.pos U U) (.B8 (v:=(str s)) hS AR (i:=1) U (.t U) isAgg9 U) U (RL.v (.pos U U) (.B8 (v:=(i64 p)) hS AR (i:=0) U (.t U) isAgg3 U) U (RL.v (.pos U U) (.C2 (.g U (λ h=>h)) (.g U (λ h=>h)) underlying9 (λ hW=>by simp only[zb]at hW;omega)) U ?_)))))))))
 refine RL.DC (.pos U U) call119 (.cons (.g U (λ h=>h)) (.cons (.g U (λ h=>h)) .nil)) (λ hW=>by simp only[zb]at hW;exact(V8 signs (A2 s p) _)) U ?_
 refine RL.v (.pos U U) (.geq (.g U (λ h=>h)) .c) U (Ab (.and (.t U) (.g U (λ h=>h))) U ?_)
 refine Aa (CW.at [Y 1 (.pointer (some ⟨bp,0,none⟩)),Y 16 (.bool ((decide (p<(len s)))&&(decide (0<=(Lib.indexByte signs (A2 s p).toNat.toUInt8)))))] U ?_)
 refine Af rfl ?_ ?_<;>intro hb1<;>try simp only[zb]at hb1
 ·refine Ad (Ab (.B8 (v:=(i64 p)) hS AR (i:=0) U (.t U) isAgg3 U) U (Ab (.add (.t U) .c (λ _=>by omega)) U ?_))
  refine RL.st hS (i:=0) U (.t U) (.t U) sizeOf3 U U U U U (λ w1 hS2=>(Aa (Ac ?_)))
  refine Ad (Ab (.assign .c) U (Aa (Ac (Ah (hE.r1 U U ?_)))))
  have hq:BK s signs p=true:=by unfold BK;simp only[zb];exact hb1
  exact⟨_,rfl,by rw[hq],by rw[P8 hq];exact hS2⟩
 ·refine Ai (Ac (Ad (Ab (.assign .c) U (Aa (Ac ?_)))))
  refine Ah (hE.r1 U U ?_)
  have hq:BK s signs p=false:=by unfold BK;simp only[zb];exact hb1
  exact⟨_,rfl,by rw[hq],by rw[N7 hq];exact hS⟩
open Go.Eng Go.RowKit
abbrev tB:=163
set_option maxHeartbeats 1000000 in
set_option maxRecDepth 100000 in
theorem AA3(b:Nat)(w:World)(h0:w.cell? ⟨b,0,none⟩=some (.pointer (some ⟨b,0,none⟩))):
  Calls prog 149 #[.pointer (some ⟨b,0,none⟩)] w λ e w'=>e= .returned (.tuple #[])/\w'=w:=by
 obtain⟨j,hj,_⟩:=Option.map_eq_some_iff.1 (show(prog.info? 163).map (·.size)=some 2 by kernel_rfl)
 have mixed:prog.follows .mixedOrders=true:=by kernel_rfl
 have u82:=λ w=>run_underlying (P:=prog) (w:=w) underlying161
 go_enter func149,ntmps149
 go_wp2
 rw[Lib.run_neq_ptr_same w _ underlying161 hj]
 go_wp2
 go_end0
 exact⟨rfl,rfl⟩
set_option maxHeartbeats 1000000 in
set_option maxRecDepth 100000 in
theorem AA4(b:Nat)(w:World)(h0:w.cell? ⟨b,0,none⟩=some (.pointer none))(hsh:w.shape? b=some (163,2))(hfz:w.frozen? ⟨b,0,none⟩=false):
  Calls prog 149 #[.pointer (some ⟨b,0,none⟩)] w λ e w'=>e= .returned (.tuple #[])/\w'=w.setCell ⟨b,0,none⟩ (.pointer (some ⟨b,0,none⟩)):=by
 obtain⟨j,hj,hjs⟩:=Option.map_eq_some_iff.1 (show(prog.info? 163).map (·.size)=some 2 by kernel_rfl)
 have mixed:prog.follows .mixedOrders=true:=by kernel_rfl
 have u82:=λ w=>run_underlying (P:=prog) (w:=w) underlying161
 go_enter func149,ntmps149
 go_wp2
 rw[Lib.run_to_unsafe w ⟨b,0,none⟩ underlying161 underlying237 hj (by rw[hjs];decide) hsh (Nat.zero_lt_succ 1)]
 simp only[Result.andThen]
 rw[Oper.upon_value]
 go_wp2
 rw[run_callFunc_extern func197 (by kernel_rfl) (by kernel_rfl) (by kernel_rfl) (e:=Extern.AbiNoEscape.same) (by kernel_rfl)]
 rw[Lib.run_noEscape]
 simp only[Result.andThen]
 rw[Oper.upon_value]
 go_wp2
 rw[Lib.run_from_unsafe w ⟨b,0,none⟩ underlying237 underlying161 hj hsh (by kernel_rfl)]
 simp only[Result.andThen]
 rw[Oper.upon_value]
 go_wp2
 go_end0
 exact⟨rfl,rfl⟩
abbrev CB(r:Int):List Int:=Lib.encodeRuneZ r
theorem AA5{w wv:World}{M0 M:Mem}{Rs:List HO}(l:List Int)(r:Int)(v:Value)(hS:St w M0 wv M (.own 5 1 v l.length (l.flatMap AQ)::Rs))(hl:len l<=70368744177664)(hr:128<=r/\r<=1114111):
  Calls prog 198 [v,(.int .i32 r)].toArray wv λ e w'=> ∃v,e= .returned v/\ ∃M',St w M0 w' M' (.own 5 1 v (l++CB r).length ((l++CB r).flatMap AQ)::Rs)/\M.le M':=by
 refine CW.BH func198 U ntmps198 (Nat.le_of_ble_eq_true U) λ Q hE=>?_
 have:=A4 l
 refine An [0,1] (L':=[Y 0 v,Y 1 (.int .i32 r)]) ?_ U
 refine Ad ?_
 have hS1:=hS.KN 5 1
 refine Ab (.assign .c) U (Aa (Ac ?_))
 refine Ad (Ae U U (Ab (.BD (r:=r) (.t U) underlying21 underlying93 (λ _=>by exact Eng.wrap_u32 (by omega))) U (Aj U U (Aa (Ac (Am ?_))))))
 refine Ad (Ae U U (Ab (.leq (.t U) .c) U (Aj U U (Aa (Ac ?_)))))
 refine Af rfl ?_ ?_<;>intro hb1<;>try simp only[zb]at hb1
 ·refine Ad (Ae U U (Ae U U (Ab (.bin (v:=.int .i32 (r/64)) (.t U) .c (λ _ w _=>by simp[go_sem,binOp])) U (Ab (.BD (r:=(r/64)%256) (.t U) underlying21 underlying5 (λ _=>IntKind.wrap_u8 _)) U (Ab (.bin (v:=.int .u8 (192+((r/64)%256))) .c (.t U) (λ hW w _=>by simp[go_sem,binOp];first|exact u8_or192 _ (by omega) (by omega)|(have hB:=u8_or192 _ (by omega) (by omega);omega))) U (Ae U U (Ab (.BD (r:=r%256) (.t U) underlying21 underlying5 (λ _=>IntKind.wrap_u8 _)) U (Ab (.bin (v:=.int .u8 ((r%256)%64)) (.t U) .c (λ hW w _=>by simp[go_sem,binOp];first|exact u8_and63 (r%256) (by omega) (by omega)|(have hB:=u8_and63 (r%256) (by omega) (by omega);omega))) U (Ab (.bin (v:=.int .u8 (128+((r%256)%64))) .c (.t U) (λ hW w _=>by simp[go_sem,binOp];first|exact u8_or128 _ (by omega) (by omega)|(have hB:=u8_or128 _ (by omega) (by omega);omega))) U ?_)))))))))
  refine RL.buildSlice (n:=2) (sz:=1) (e:=5) (vs:=[(0,(.int .u8 (192+((r/64)%256)))),(1,(.int .u8 (128+((r%256)%64))))]) (cs:=[(.int .u8 (192+((r/64)%256))),(.int .u8 (128+((r%256)%64)))]) hS1 (.cons (.t U) (.cons (.t U) .nil)) U U (λ w=>by kernel_rfl) U (λ v2 w3 M4 hS5 hle6=>?_)
  refine RL.N2 (f:=AQ) (l:=l) (m:=([192+((r/64)%256),128+((r%256)%64)]:List Int)) hS5 (k:=2) U (.t U) (.t U) (hS5.sl (i:=0) U) underlying110 type5 U U U N4 (by':=1) U U (by simp only[A5,A6,len_nil];omega) U (Hs':=λ v'=>(.own 5 1 v2 (([192+((r/64)%256),128+((r%256)%64)]:List Int)).length ((([192+((r/64)%256),128+((r%256)%64)]:List Int)).flatMap AQ):: .own 5 1 (.slice none 0 0) (([]:List Int)).length ((([]:List Int)).flatMap AQ):: .own 5 1 v' (l++([192+((r/64)%256),128+((r%256)%64)]:List Int)).length ((l++([192+((r/64)%256),128+((r%256)%64)]:List Int)).flatMap AQ)::Rs)) (λ _=>rfl) (λ v7 w8 M9 hS10 hle11=>?_)
  refine Aj U U (Aa (Ac ?_))
  refine Ah (hE.r1 U U ?_)
  replace hS10:=(hS10.erase 1 U).erase 0 U
  refine⟨_,rfl,M9,?_,(hle6.trans hle11)⟩
  have he:CB r=([192+((r/64)%256),128+((r%256)%64)]:List Int):=by
   refine(show CB r=_ from Lib.encodeRuneZ_two (by omega) (by omega)).trans ?_
   first|rfl|(simp only[List.cons.injEq,and_true];omega)
  rw[he];exact hS10
 ·refine Ag (Ad (Ae U U (Ab (.lss (.t U) .c) U (Aj U U (Aa (Ac ?_))))))
  refine Af rfl ?_ ?_<;>intro hb2<;>try simp only[zb]at hb2
  ·refine Ai (Ac ?_)
   refine Af rfl ?_ ?_<;>intro hb3<;>try simp only[zb]at hb3
   ·refine Ad (Ae U U (Ae U U (Ab (.bin (v:=.int .i32 (r/4096)) (.t U) .c (λ _ w _=>by simp[go_sem,binOp])) U (Ab (.BD (r:=(r/4096)%256) (.t U) underlying21 underlying5 (λ _=>IntKind.wrap_u8 _)) U (Ab (.bin (v:=.int .u8 (224+((r/4096)%256))) .c (.t U) (λ hW w _=>by simp[go_sem,binOp];first|exact u8_or224 _ (by omega) (by omega)|(have hB:=u8_or224 _ (by omega) (by omega);omega))) U (Ae U U (Ab (.bin (v:=.int .i32 (r/64)) (.t U) .c (λ _ w _=>by simp[go_sem,binOp])) U (Ab (.BD (r:=(r/64)%256) (.t U) underlying21 underlying5 (λ _=>IntKind.wrap_u8 _)) U (Ab (.bin (v:=.int .u8 (((r/64)%256)%64)) (.t U) .c (λ hW w _=>by simp[go_sem,binOp];first|exact u8_and63 ((r/64)%256) (by omega) (by omega)|(have hB:=u8_and63 ((r/64)%256) (by omega) (by omega);omega))) U (Ab (.bin (v:=.int .u8 (128+(((r/64)%256)%64))) .c (.t U) (λ hW w _=>by simp[go_sem,binOp];first|exact u8_or128 _ (by omega) (by omega)|(have hB:=u8_or128 _ (by omega) (by omega);omega))) U (Ae U U (Ab (.BD (r:=r%256) (.t U) underlying21 underlying5 (λ _=>IntKind.wrap_u8 _)) U (Ab (.bin (v:=.int .u8 ((r%256)%64)) (.t U) .c (λ hW w _=>by simp[go_sem,binOp];first|exact u8_and63 (r%256) (by omega) (by omega)|(have hB:=u8_and63 (r%256) (by omega) (by omega);omega))) U (Ab (.bin (v:=.int .u8 (128+((r%256)%64))) .c (.t U) (λ hW w _=>by simp[go_sem,binOp];first|exact u8_or128 _ (by omega) (by omega)|(have hB:=u8_or128 _ (by omega) (by omega);omega))) U ?_))))))))))))))
    refine RL.buildSlice (n:=3) (sz:=1) (e:=5) (vs:=[(0,(.int .u8 (224+((r/4096)%256)))),(1,(.int .u8 (128+(((r/64)%256)%64)))),(2,(.int .u8 (128+((r%256)%64))))]) (cs:=[(.int .u8 (224+((r/4096)%256))),(.int .u8 (128+(((r/64)%256)%64))),(.int .u8 (128+((r%256)%64)))]) hS1 (.cons (.t U) (.cons (.t U) (.cons (.t U) .nil))) U U (λ w=>by kernel_rfl) U (λ v12 w13 M14 hS15 hle16=>?_)
    refine RL.N2 (f:=AQ) (l:=l) (m:=([224+((r/4096)%256),128+(((r/64)%256)%64),128+((r%256)%64)]:List Int)) hS15 (k:=2) U (.t U) (.t U) (hS15.sl (i:=0) U) underlying110 type5 U U U N4 (by':=1) U U (by simp only[A5,A6,len_nil];omega) U (Hs':=λ v'=>(.own 5 1 v12 (([224+((r/4096)%256),128+(((r/64)%256)%64),128+((r%256)%64)]:List Int)).length ((([224+((r/4096)%256),128+(((r/64)%256)%64),128+((r%256)%64)]:List Int)).flatMap AQ):: .own 5 1 (.slice none 0 0) (([]:List Int)).length ((([]:List Int)).flatMap AQ):: .own 5 1 v' (l++([224+((r/4096)%256),128+(((r/64)%256)%64),128+((r%256)%64)]:List Int)).length ((l++([224+((r/4096)%256),128+(((r/64)%256)%64),128+((r%256)%64)]:List Int)).flatMap AQ)::Rs)) (λ _=>rfl) (λ v17 w18 M19 hS20 hle21=>?_)
    refine Aj U U (Aa (Ac ?_))
    refine Ah (hE.r1 U U ?_)
    replace hS20:=(hS20.erase 1 U).erase 0 U
    refine⟨_,rfl,M19,?_,(hle16.trans hle21)⟩
    have he:CB r=([224+((r/4096)%256),128+(((r/64)%256)%64),128+((r%256)%64)]:List Int):=by
     refine(show CB r=_ from Lib.encodeRuneZ_three (by omega)).trans ?_
     first|rfl|(simp only[List.cons.injEq,and_true];omega)
    rw[he];exact hS20
   ·refine Ad (Ae U U (Ab (.gtr (.t U) .c) U (Ae U U (RL.v (.pos U U) (.move (.t U)) U (RL.v (.pos U U) (.leq (.g U (λ h=>h)) .c) U (Ab (.and (.t U) (.g U (λ h=>h))) U (Aj U U (Aa (Ac ?_)))))))))
    refine Af rfl ?_ ?_<;>intro hb4<;>try simp only[zb]at hb4
    ·refine Ad (Ae U U (Ae U U (Ab (.bin (v:=.int .i32 (r/262144)) (.t U) .c (λ _ w _=>by simp[go_sem,binOp])) U (Ab (.BD (r:=(r/262144)%256) (.t U) underlying21 underlying5 (λ _=>IntKind.wrap_u8 _)) U (Ab (.bin (v:=.int .u8 (240+((r/262144)%256))) .c (.t U) (λ hW w _=>by simp[go_sem,binOp];first|exact u8_or240 _ (by omega) (by omega)|(have hB:=u8_or240 _ (by omega) (by omega);omega))) U (Ae U U (Ab (.bin (v:=.int .i32 (r/4096)) (.t U) .c (λ _ w _=>by simp[go_sem,binOp])) U (Ab (.BD (r:=(r/4096)%256) (.t U) underlying21 underlying5 (λ _=>IntKind.wrap_u8 _)) U (Ab (.bin (v:=.int .u8 (((r/4096)%256)%64)) (.t U) .c (λ hW w _=>by simp[go_sem,binOp];first|exact u8_and63 ((r/4096)%256) (by omega) (by omega)|(have hB:=u8_and63 ((r/4096)%256) (by omega) (by omega);omega))) U (Ab (.bin (v:=.int .u8 (128+(((r/4096)%256)%64))) .c (.t U) (λ hW w _=>by simp[go_sem,binOp];first|exact u8_or128 _ (by omega) (by omega)|(have hB:=u8_or128 _ (by omega) (by omega);omega))) U (Ae U U (Ab (.bin (v:=.int .i32 (r/64)) (.t U) .c (λ _ w _=>by simp[go_sem,binOp])) U (Ab (.BD (r:=(r/64)%256) (.t U) underlying21 underlying5 (λ _=>IntKind.wrap_u8 _)) U (Ab (.bin (v:=.int .u8 (((r/64)%256)%64)) (.t U) .c (λ hW w _=>by simp[go_sem,binOp];first|exact u8_and63 ((r/64)%256) (by omega) (by omega)|(have hB:=u8_and63 ((r/64)%256) (by omega) (by omega);omega))) U (Ab (.bin (v:=.int .u8 (128+(((r/64)%256)%64))) .c (.t U) (λ hW w _=>by simp[go_sem,binOp];first|exact u8_or128 _ (by omega) (by omega)|(have hB:=u8_or128 _ (by omega) (by omega);omega))) U (Ae U U (Ab (.BD (r:=r%256) (.t U) underlying21 underlying5 (λ _=>IntKind.wrap_u8 _)) U (Ab (.bin (v:=.int .u8 ((r%256)%64)) (.t U) .c (λ hW w _=>by simp[go_sem,binOp];first|exact u8_and63 (r%256) (by omega) (by omega)|(have hB:=u8_and63 (r%256) (by omega) (by omega);omega))) U ?_))))))))))))))))))
     refine Ab (.bin (v:=.int .u8 (128+((r%256)%64))) .c (.t U) (λ hW w _=>by simp[go_sem,binOp];first|exact u8_or128 _ (by omega) (by omega)|(have hB:=u8_or128 _ (by omega) (by omega);omega))) U ?_
     refine RL.buildSlice (n:=4) (sz:=1) (e:=5) (vs:=[(0,(.int .u8 (240+((r/262144)%256)))),(1,(.int .u8 (128+(((r/4096)%256)%64)))),(2,(.int .u8 (128+(((r/64)%256)%64)))),(3,(.int .u8 (128+((r%256)%64))))]) (cs:=[(.int .u8 (240+((r/262144)%256))),(.int .u8 (128+(((r/4096)%256)%64))),(.int .u8 (128+(((r/64)%256)%64))),(.int .u8 (128+((r%256)%64)))]) hS1 (.cons (.t U) (.cons (.t U) (.cons (.t U) (.cons (.t U) .nil)))) U U (λ w=>by kernel_rfl) U (λ v22 w23 M24 hS25 hle26=>?_)
     refine RL.N2 (f:=AQ) (l:=l) (m:=([240+((r/262144)%256),128+(((r/4096)%256)%64),128+(((r/64)%256)%64),128+((r%256)%64)]:List Int)) hS25 (k:=2) U (.t U) (.t U) (hS25.sl (i:=0) U) underlying110 type5 U U U N4 (by':=1) U U (by simp only[A5,A6,len_nil];omega) U (Hs':=λ v'=>(.own 5 1 v22 (([240+((r/262144)%256),128+(((r/4096)%256)%64),128+(((r/64)%256)%64),128+((r%256)%64)]:List Int)).length ((([240+((r/262144)%256),128+(((r/4096)%256)%64),128+(((r/64)%256)%64),128+((r%256)%64)]:List Int)).flatMap AQ):: .own 5 1 (.slice none 0 0) (([]:List Int)).length ((([]:List Int)).flatMap AQ):: .own 5 1 v' (l++([240+((r/262144)%256),128+(((r/4096)%256)%64),128+(((r/64)%256)%64),128+((r%256)%64)]:List Int)).length ((l++([240+((r/262144)%256),128+(((r/4096)%256)%64),128+(((r/64)%256)%64),128+((r%256)%64)]:List Int)).flatMap AQ)::Rs)) (λ _=>rfl) (λ v27 w28 M29 hS30 hle31=>?_)
     refine Aj U U (Aa (Ac ?_))
     refine Ah (hE.r1 U U ?_)
     replace hS30:=(hS30.erase 1 U).erase 0 U
     exfalso;omega
    ·refine Ad (Ae U U ?_)
     refine RL.buildSlice (n:=3) (sz:=1) (e:=5) (vs:=[(0,(.int .u8 239)),(1,(.int .u8 191)),(2,(.int .u8 189))]) (cs:=[(.int .u8 239),(.int .u8 191),(.int .u8 189)]) hS1 (.cons .c (.cons .c (.cons .c .nil))) U U (λ w=>by kernel_rfl) U (λ v32 w33 M34 hS35 hle36=>?_)
     refine RL.N2 (f:=AQ) (l:=l) (m:=([239,191,189]:List Int)) hS35 (k:=2) U (.t U) (.t U) (hS35.sl (i:=0) U) underlying110 type5 U U U N4 (by':=1) U U (by simp only[A5,A6,len_nil];omega) U (Hs':=λ v'=>(.own 5 1 v32 (([239,191,189]:List Int)).length ((([239,191,189]:List Int)).flatMap AQ):: .own 5 1 (.slice none 0 0) (([]:List Int)).length ((([]:List Int)).flatMap AQ):: .own 5 1 v' (l++([239,191,189]:List Int)).length ((l++([239,191,189]:List Int)).flatMap AQ)::Rs)) (λ _=>rfl) (λ v37 w38 M39 hS40 hle41=>?_)
     refine Aj U U (Aa (Ac ?_))
     refine Ah (hE.r1 U U ?_)
     replace hS40:=(hS40.erase 1 U).erase 0 U
     exfalso;omega
  ·refine CW.region (Ae U U (Ab (.lss .c (.t U)) U (Ae U U (RL.v (.pos U U) (.move (.t U)) U (RL.v (.pos U U) (.leq (.g U (λ h=>h)) .c) U (Ab (.and (.t U) (.g U (λ h=>h))) U (Aj U U (Aa (Ac ?_)))))))))
   refine Af rfl ?_ ?_<;>intro hb5<;>try simp only[zb]at hb5
   ·refine Ad (Ae U U (Ae U U (Ab (.bin (v:=.int .i32 (r/4096)) (.t U) .c (λ _ w _=>by simp[go_sem,binOp])) U (Ab (.BD (r:=(r/4096)%256) (.t U) underlying21 underlying5 (λ _=>IntKind.wrap_u8 _)) U (Ab (.bin (v:=.int .u8 (224+((r/4096)%256))) .c (.t U) (λ hW w _=>by simp[go_sem,binOp];first|exact u8_or224 _ (by omega) (by omega)|(have hB:=u8_or224 _ (by omega) (by omega);omega))) U (Ae U U (Ab (.bin (v:=.int .i32 (r/64)) (.t U) .c (λ _ w _=>by simp[go_sem,binOp])) U (Ab (.BD (r:=(r/64)%256) (.t U) underlying21 underlying5 (λ _=>IntKind.wrap_u8 _)) U (Ab (.bin (v:=.int .u8 (((r/64)%256)%64)) (.t U) .c (λ hW w _=>by simp[go_sem,binOp];first|exact u8_and63 ((r/64)%256) (by omega) (by omega)|(have hB:=u8_and63 ((r/64)%256) (by omega) (by omega);omega))) U (Ab (.bin (v:=.int .u8 (128+(((r/64)%256)%64))) .c (.t U) (λ hW w _=>by simp[go_sem,binOp];first|exact u8_or128 _ (by omega) (by omega)|(have hB:=u8_or128 _ (by omega) (by omega);omega))) U (Ae U U (Ab (.BD (r:=r%256) (.t U) underlying21 underlying5 (λ _=>IntKind.wrap_u8 _)) U (Ab (.bin (v:=.int .u8 ((r%256)%64)) (.t U) .c (λ hW w _=>by simp[go_sem,binOp];first|exact u8_and63 (r%256) (by omega) (by omega)|(have hB:=u8_and63 (r%256) (by omega) (by omega);omega))) U (Ab (.bin (v:=.int .u8 (128+((r%256)%64))) .c (.t U) (λ hW w _=>by simp[go_sem,binOp];first|exact u8_or128 _ (by omega) (by omega)|(have hB:=u8_or128 _ (by omega) (by omega);omega))) U ?_))))))))))))))
    refine RL.buildSlice (n:=3) (sz:=1) (e:=5) (vs:=[(0,(.int .u8 (224+((r/4096)%256)))),(1,(.int .u8 (128+(((r/64)%256)%64)))),(2,(.int .u8 (128+((r%256)%64))))]) (cs:=[(.int .u8 (224+((r/4096)%256))),(.int .u8 (128+(((r/64)%256)%64))),(.int .u8 (128+((r%256)%64)))]) hS1 (.cons (.t U) (.cons (.t U) (.cons (.t U) .nil))) U U (λ w=>by kernel_rfl) U (λ v42 w43 M44 hS45 hle46=>?_)
    refine RL.N2 (f:=AQ) (l:=l) (m:=([224+((r/4096)%256),128+(((r/64)%256)%64),128+((r%256)%64)]:List Int)) hS45 (k:=2) U (.t U) (.t U) (hS45.sl (i:=0) U) underlying110 type5 U U U N4 (by':=1) U U (by simp only[A5,A6,len_nil];omega) U (Hs':=λ v'=>(.own 5 1 v42 (([224+((r/4096)%256),128+(((r/64)%256)%64),128+((r%256)%64)]:List Int)).length ((([224+((r/4096)%256),128+(((r/64)%256)%64),128+((r%256)%64)]:List Int)).flatMap AQ):: .own 5 1 (.slice none 0 0) (([]:List Int)).length ((([]:List Int)).flatMap AQ):: .own 5 1 v' (l++([224+((r/4096)%256),128+(((r/64)%256)%64),128+((r%256)%64)]:List Int)).length ((l++([224+((r/4096)%256),128+(((r/64)%256)%64),128+((r%256)%64)]:List Int)).flatMap AQ)::Rs)) (λ _=>rfl) (λ v47 w48 M49 hS50 hle51=>?_)
    refine Aj U U (Aa (Ac ?_))
    refine Ah (hE.r1 U U ?_)
    replace hS50:=(hS50.erase 1 U).erase 0 U
    refine⟨_,rfl,M49,?_,(hle46.trans hle51)⟩
    have he:CB r=([224+((r/4096)%256),128+(((r/64)%256)%64),128+((r%256)%64)]:List Int):=by
     refine(show CB r=_ from Lib.encodeRuneZ_three (by omega)).trans ?_
     first|rfl|(simp only[List.cons.injEq,and_true];omega)
    rw[he];exact hS50
   ·refine Ad (Ae U U (Ab (.gtr (.t U) .c) U (Ae U U (RL.v (.pos U U) (.move (.t U)) U (RL.v (.pos U U) (.leq (.g U (λ h=>h)) .c) U (Ab (.and (.t U) (.g U (λ h=>h))) U (Aj U U (Aa (Ac ?_)))))))))
    refine Af rfl ?_ ?_<;>intro hb6<;>try simp only[zb]at hb6
    ·refine Ad (Ae U U (Ae U U (Ab (.bin (v:=.int .i32 (r/262144)) (.t U) .c (λ _ w _=>by simp[go_sem,binOp])) U (Ab (.BD (r:=(r/262144)%256) (.t U) underlying21 underlying5 (λ _=>IntKind.wrap_u8 _)) U (Ab (.bin (v:=.int .u8 (240+((r/262144)%256))) .c (.t U) (λ hW w _=>by simp[go_sem,binOp];first|exact u8_or240 _ (by omega) (by omega)|(have hB:=u8_or240 _ (by omega) (by omega);omega))) U (Ae U U (Ab (.bin (v:=.int .i32 (r/4096)) (.t U) .c (λ _ w _=>by simp[go_sem,binOp])) U (Ab (.BD (r:=(r/4096)%256) (.t U) underlying21 underlying5 (λ _=>IntKind.wrap_u8 _)) U (Ab (.bin (v:=.int .u8 (((r/4096)%256)%64)) (.t U) .c (λ hW w _=>by simp[go_sem,binOp];first|exact u8_and63 ((r/4096)%256) (by omega) (by omega)|(have hB:=u8_and63 ((r/4096)%256) (by omega) (by omega);omega))) U (Ab (.bin (v:=.int .u8 (128+(((r/4096)%256)%64))) .c (.t U) (λ hW w _=>by simp[go_sem,binOp];first|exact u8_or128 _ (by omega) (by omega)|(have hB:=u8_or128 _ (by omega) (by omega);omega))) U (Ae U U (Ab (.bin (v:=.int .i32 (r/64)) (.t U) .c (λ _ w _=>by simp[go_sem,binOp])) U (Ab (.BD (r:=(r/64)%256) (.t U) underlying21 underlying5 (λ _=>IntKind.wrap_u8 _)) U (Ab (.bin (v:=.int .u8 (((r/64)%256)%64)) (.t U) .c (λ hW w _=>by simp[go_sem,binOp];first|exact u8_and63 ((r/64)%256) (by omega) (by omega)|(have hB:=u8_and63 ((r/64)%256) (by omega) (by omega);omega))) U (Ab (.bin (v:=.int .u8 (128+(((r/64)%256)%64))) .c (.t U) (λ hW w _=>by simp[go_sem,binOp];first|exact u8_or128 _ (by omega) (by omega)|(have hB:=u8_or128 _ (by omega) (by omega);omega))) U (Ae U U (Ab (.BD (r:=r%256) (.t U) underlying21 underlying5 (λ _=>IntKind.wrap_u8 _)) U (Ab (.bin (v:=.int .u8 ((r%256)%64)) (.t U) .c (λ hW w _=>by simp[go_sem,binOp];first|exact u8_and63 (r%256) (by omega) (by omega)|(have hB:=u8_and63 (r%256) (by omega) (by omega);omega))) U ?_))))))))))))))))))
     refine Ab (.bin (v:=.int .u8 (128+((r%256)%64))) .c (.t U) (λ hW w _=>by simp[go_sem,binOp];first|exact u8_or128 _ (by omega) (by omega)|(have hB:=u8_or128 _ (by omega) (by omega);omega))) U ?_
     refine RL.buildSlice (n:=4) (sz:=1) (e:=5) (vs:=[(0,(.int .u8 (240+((r/262144)%256)))),(1,(.int .u8 (128+(((r/4096)%256)%64)))),(2,(.int .u8 (128+(((r/64)%256)%64)))),(3,(.int .u8 (128+((r%256)%64))))]) (cs:=[(.int .u8 (240+((r/262144)%256))),(.int .u8 (128+(((r/4096)%256)%64))),(.int .u8 (128+(((r/64)%256)%64))),(.int .u8 (128+((r%256)%64)))]) hS1 (.cons (.t U) (.cons (.t U) (.cons (.t U) (.cons (.t U) .nil)))) U U (λ w=>by kernel_rfl) U (λ v52 w53 M54 hS55 hle56=>?_)
     refine RL.N2 (f:=AQ) (l:=l) (m:=([240+((r/262144)%256),128+(((r/4096)%256)%64),128+(((r/64)%256)%64),128+((r%256)%64)]:List Int)) hS55 (k:=2) U (.t U) (.t U) (hS55.sl (i:=0) U) underlying110 type5 U U U N4 (by':=1) U U (by simp only[A5,A6,len_nil];omega) U (Hs':=λ v'=>(.own 5 1 v52 (([240+((r/262144)%256),128+(((r/4096)%256)%64),128+(((r/64)%256)%64),128+((r%256)%64)]:List Int)).length ((([240+((r/262144)%256),128+(((r/4096)%256)%64),128+(((r/64)%256)%64),128+((r%256)%64)]:List Int)).flatMap AQ):: .own 5 1 (.slice none 0 0) (([]:List Int)).length ((([]:List Int)).flatMap AQ):: .own 5 1 v' (l++([240+((r/262144)%256),128+(((r/4096)%256)%64),128+(((r/64)%256)%64),128+((r%256)%64)]:List Int)).length ((l++([240+((r/262144)%256),128+(((r/4096)%256)%64),128+(((r/64)%256)%64),128+((r%256)%64)]:List Int)).flatMap AQ)::Rs)) (λ _=>rfl) (λ v57 w58 M59 hS60 hle61=>?_)
     refine Aj U U ?_
     refine Aa (CW.at [Y 4 v57] U (Ah (hE.r1 U U ?_)))
     replace hS60:=(hS60.erase 1 U).erase 0 U
     refine⟨_,rfl,M59,?_,(hle56.trans hle61)⟩
     have he:CB r=([240+((r/262144)%256),128+(((r/4096)%256)%64),128+(((r/64)%256)%64),128+((r%256)%64)]:List Int):=by
      refine(show CB r=_ from Lib.encodeRuneZ_four (by omega) (by omega)).trans ?_
      first|rfl|(simp only[List.cons.injEq,and_true];omega)
     rw[he];exact hS60
    ·refine Ad (Ae U U ?_)
     refine RL.buildSlice (n:=3) (sz:=1) (e:=5) (vs:=[(0,(.int .u8 239)),(1,(.int .u8 191)),(2,(.int .u8 189))]) (cs:=[(.int .u8 239),(.int .u8 191),(.int .u8 189)]) hS1 (.cons .c (.cons .c (.cons .c .nil))) U U (λ w=>by kernel_rfl) U (λ v62 w63 M64 hS65 hle66=>?_)
     refine RL.N2 (f:=AQ) (l:=l) (m:=([239,191,189]:List Int)) hS65 (k:=2) U (.t U) (.t U) (hS65.sl (i:=0) U) underlying110 type5 U U U N4 (by':=1) U U (by simp only[A5,A6,len_nil];omega) U (Hs':=λ v'=>(.own 5 1 v62 (([239,191,189]:List Int)).length ((([239,191,189]:List Int)).flatMap AQ):: .own 5 1 (.slice none 0 0) (([]:List Int)).length ((([]:List Int)).flatMap AQ):: .own 5 1 v' (l++([239,191,189]:List Int)).length ((l++([239,191,189]:List Int)).flatMap AQ)::Rs)) (λ _=>rfl) (λ v67 w68 M69 hS70 hle71=>?_)
     refine Aj U U (Aa (Ac ?_))
     refine Ah (hE.r1 U U ?_)
     replace hS70:=(hS70.erase 1 U).erase 0 U
     refine⟨_,rfl,M69,?_,(hle66.trans hle71)⟩
     have he:CB r=([239,191,189]:List Int):=by
      refine(show CB r=_ from Lib.encodeRuneZ_bad (by omega)).trans ?_
      first|rfl|(simp only[List.cons.injEq,and_true];omega)
     rw[he];exact hS70
theorem AA6{w wv:World}{M0 M:Mem}{Rs:List HO}(l:List Int)(r:Int)(v:Value)(hS:St w M0 wv M (.own 5 1 v l.length (l.flatMap AQ)::Rs))(hl:len l<=70368744177664)(hr:0<=r/\r<=1114111):
  Calls prog 150 [v,(.int .i32 r)].toArray wv λ e w'=> ∃v,e= .returned v/\ ∃M',St w M0 w' M' (.own 5 1 v (l++CB r).length ((l++CB r).flatMap AQ)::Rs)/\M.le M':=by
 refine CW.BH func150 U ntmps150 (Nat.le_of_ble_eq_true U) λ Q hE=>?_
 have:=A4 l
 refine An [0,1] (L':=[Y 0 v,Y 1 (.int .i32 r)]) ?_ U
 refine Ad ?_
 have hS1:=hS.KN 5 1
 refine Ab (.assign .c) U (Aa (Ac ?_))
 refine Ag (Ad (Ae U U (Ab (.BD (r:=r) (.t U) underlying21 underlying93 (λ _=>by exact Eng.wrap_u32 (by omega))) U (Ab (.leq (.t U) .c) U (Aa (Ac ?_))))))
 refine Af rfl ?_ ?_<;>intro hb1<;>try simp only[zb]at hb1
 ·refine Ad (Ae U U (Ae U U (Ab (.BD (r:=r) (.t U) underlying21 underlying5 (λ _=>by exact Eng.wrap_u8 (by omega))) U ?_)))
  refine RL.buildSlice (n:=1) (sz:=1) (e:=5) (vs:=[(0,(.int .u8 r))]) (cs:=[(.int .u8 r)]) hS1 (.cons (.t U) .nil) U U (λ w=>by kernel_rfl) U (λ v2 w3 M4 hS5 hle6=>?_)
  refine RL.SH (f:=AQ) (l:=l) (y:=r) hS5 (k:=2) U (.t U) (.t U) (hS5.sl (i:=0) U) underlying110 type5 U U U N4 (by':=1) U U (by omega) U (Hs':=λ v'=>(.own 5 1 v2 (([r]:List Int)).length ((([r]:List Int)).flatMap AQ):: .own 5 1 (.slice none 0 0) (([]:List Int)).length ((([]:List Int)).flatMap AQ):: .own 5 1 v' (l++[r]).length ((l++[r]).flatMap AQ)::Rs)) (λ _=>rfl) (λ v7 w8 M9 hS10 hle11=>?_)
  replace hS10:=hS10.erase 0 U
  refine Aj U U (Aa (Ac ?_))
  refine Ah (hE.r1 U U ?_)
  replace hS10:=hS10.erase 0 U
  refine⟨_,rfl,M9,?_,(hle6.trans hle11)⟩
  have he:CB r=[r]:=by
   refine(show CB r=_ from Lib.encodeRuneZ_one (by omega) (by omega)).trans ?_
   first|rfl|(simp only[List.cons.injEq,and_true];omega)
  rw[he];exact hS10
 ·refine Ai (Ac (Ad (Ae U U (Ae U U ?_))))
  replace hS1:=hS1.front 1 U U
  refine RL.DP call198 (.cons (.t U) (.cons (.t U) .nil)) (AA5 (Rs:=(.own 5 1 (.slice none 0 0) (([]:List Int)).length ((([]:List Int)).flatMap AQ)::Rs)) l r v hS1 (by first|assumption|omega) (by omega)) U ?_
  rintro v12 w13 ⟨M14,hS15,hle16⟩
  refine Aj U U ?_
  refine Aa (CW.at [Y 4 v12] U (Ah (hE.r1 U U ?_)))
  replace hS15:=hS15.erase 1 U
  exact⟨_,rfl,M14,hS15,hle16⟩
theorem AA7{w:World}{b:Nat}{a v x:Value}{t:TypeId}(h:w.heap[b]? =some (.cells #[a,v] t (0,0))):w.setCell ⟨b,0,none⟩ x=w.setRow b #[x,v]:=by
 unfold World.setCell World.setRow
 congr 1
 apply Array.ext_getElem?
 intro i
 by_cases hi:b=i
 ·subst hi;simp[Array.getElem?_modify,h]
 ·simp[Array.getElem?_modify,hi]
def CC(b:Nat):Value:=.pointer (some ⟨b,0,none⟩)
theorem bP{w wv:World}{M0 M:Mem}{Rs:List HO}(b:Nat)(a v:Value)(hS:St w M0 wv M (.box b [a,v] tB::Rs))(ha:a= .pointer none\/a=CC b):
  Calls prog 149 [.pointer (some ⟨b,0,none⟩)].toArray wv λ e w'=> ∃u,e= .returned u/\St w M0 w' M (.box b [CC b,v] tB::Rs):=by
 have hb:=(hS.obj (i:=0) U).2.1
 rcases ha with rfl|rfl
 ·refine(AA4 b wv (by simp[World.cell?,hb]) (by simp[World.shape?,hb]) (by simp[World.frozen?,hb])).mono λ e w' ⟨he,hw⟩=>⟨_,he,?_⟩
  rw[hw,AA7 hb]
  exact hS.SG (i:=0) U [CC b,v]
 ·exact(AA3 b wv (by simp[World.cell?,hb,CC])).mono λ e w' ⟨he,hw⟩=>⟨_,he,hw▸hS⟩
theorem WT{w wv:World}{M0 M:Mem}{Rs:List HO}(b:Nat)(a:Value)(l:List Int)(c:Int)(v:Value)(hS:St w M0 wv M (.box b [a,v] 163:: .own 5 1 v l.length (l.flatMap AQ)::Rs))(ha:a= .pointer none\/a=CC b)(hl:len l<=35184372088832)(hc:0<=c/\c<=255):
  Calls prog 282 [(.pointer (some ⟨b,0,none⟩)),(.int .u8 c)].toArray wv λ e w'=> ∃u,e= .returned u/\ ∃v' M',u= .nilIface/\St w M0 w' M' (.box b [CC b,v'] 163:: .own 5 1 v' (l++[c]).length ((l++[c]).flatMap AQ)::Rs)/\M.le M':=by
 refine CW.BH func282 U ntmps282 (Nat.le_of_ble_eq_true U) λ Q hE=>?_
 have:=A4 l
 refine An [0,1] (L':=[Y 0 (.pointer (some ⟨b,0,none⟩)),Y 1 (.int .u8 c)]) ?_ U
 refine Ad (Ab (.assign .c) U (Aa (Ac (Ad ?_))))
 refine Ae U U ?_
 replace hS:=hS.front 0 U U
 refine RL.DP call149 (.cons (.t U) .nil) (bP (Rs:=(.own 5 1 v l.length (l.flatMap AQ)::Rs)) b a v hS (by first|assumption|exact Or.inr U|exact Or.inl U)) U ?_
 rintro v1 w2 hS4
 refine Aa (CW.at [Y 0 (.pointer (some ⟨b,0,none⟩)),Y 1 (.int .u8 c)] U (Ad (Ae U U (Ae U U (Ab (.IB (.t U)) U (Ab (.BI (q:=⟨b,1,none⟩) (.t U) (λ w=>by kernel_rfl)) U (Ab (.B8 (v:=v) hS4 AR (i:=0) U (.t U) isAgg110 U) U (Ae U U ?_))))))))
 refine RL.buildSlice (n:=1) (sz:=1) (e:=5) (vs:=[(0,(.int .u8 c))]) (cs:=[(.int .u8 c)]) hS4 (.cons (.t U) .nil) U U (λ w=>by kernel_rfl) U (λ v6 w7 M8 hS9 hle10=>?_)
 refine RL.SH (f:=AQ) (l:=l) (y:=c) hS9 (k:=2) U (.t U) (.t U) (hS9.sl (i:=0) U) underlying110 type5 U U U N4 (by':=1) U U (by omega) U (Hs':=λ v'=>(.own 5 1 v6 (([c]:List Int)).length ((([c]:List Int)).flatMap AQ):: .box b [(CC b),v] 163:: .own 5 1 v' (l++[c]).length ((l++[c]).flatMap AQ)::Rs)) (λ _=>rfl) (λ v11 w12 M13 hS14 hle15=>?_)
 replace hS14:=hS14.erase 0 U
 refine Ab (.IB (.t U)) U (Ab (.BI (q:=⟨b,1,none⟩) (.t U) (λ w=>by kernel_rfl)) U ?_)
 refine RL.YY (v:=v11) hS14 (hS14.sl (i:=1) U) (i:=0) U (.t U) (.t U) sizeOf110 U (cs':=[(CC b),v11]) U (Hs':=(.box b [(CC b),v11] 163:: .own 5 1 v11 (l++[c]).length ((l++[c]).flatMap AQ)::Rs)) U (λ w16 hS17=>(Aa (Ac ?_)))
 refine Ad (Ab (.assign .c) U (Aa (Ac (Ah (hE.r1 U U ?_)))))
 exact⟨_,rfl,_,M13,rfl,hS17,(hle10.trans hle15)⟩
theorem bQ{w wv:World}{M0 M:Mem}{Rs:List HO}(b:Nat)(a:Value)(l:List Int)(s:A1)(v:Value)(hS:St w M0 wv M (.box b [a,v] 163:: .own 5 1 v l.length (l.flatMap AQ)::Rs))(ha:a= .pointer none\/a=CC b)(hl:len l<=35184372088832)(hc:len s<=35184372088832):
  Calls prog 218 [(.pointer (some ⟨b,0,none⟩)),(str s)].toArray wv λ e w'=> ∃u,e= .returned u/\ ∃v' M',u= .tuple #[i64 (len s),.nilIface]/\St w M0 w' M' (.box b [CC b,v'] 163:: .own 5 1 v' (l++ints s).length ((l++ints s).flatMap AQ)::Rs)/\M.le M':=by
 refine CW.BH func218 U ntmps218 (Nat.le_of_ble_eq_true U) λ Q hE=>?_
 have:=A4 l
 refine An [0,1] (L':=[Y 0 (.pointer (some ⟨b,0,none⟩)),Y 1 (str s)]) ?_ U
 refine Ad (Ab (.assign .c) U (Ab (.assign .c) U (Aa (Ac (Ad ?_)))))
 refine Ae U U ?_
 replace hS:=hS.front 0 U U
 refine RL.DP call149 (.cons (.t U) .nil) (bP (Rs:=(.own 5 1 v l.length (l.flatMap AQ)::Rs)) b a v hS (by first|assumption|exact Or.inr U|exact Or.inl U)) U ?_
 rintro v1 w2 hS4
 refine Aa (CW.at [Y 0 (.pointer (some ⟨b,0,none⟩)),Y 1 (str s)] U (Ad (Ae U U (Ae U U (Ab (.IB (.t U)) U (Ab (.BI (q:=⟨b,1,none⟩) (.t U) (λ w=>by kernel_rfl)) U (Ab (.B8 (v:=v) hS4 AR (i:=0) U (.t U) isAgg110 U) U (Ae U U ?_))))))))
 refine RL.tK (l:=l) (s:=s) hS4 (k:=1) U (.t U) (.t U) underlying110 underlying9 type5 U U U (by omega) U (Hs':=λ v'=>(.box b [(CC b),v] 163:: .own 5 1 v' (l++ints s).length ((l++ints s).flatMap AQ)::Rs)) (λ _=>rfl) (λ v6 w7 M8 hS9 hle10=>?_)
 refine Ab (.IB (.t U)) U (Ab (.BI (q:=⟨b,1,none⟩) (.t U) (λ w=>by kernel_rfl)) U ?_)
 refine RL.YY (v:=v6) hS9 (hS9.sl (i:=1) U) (i:=0) U (.t U) (.t U) sizeOf110 U (cs':=[(CC b),v6]) U (Hs':=(.box b [(CC b),v6] 163:: .own 5 1 v6 (l++ints s).length ((l++ints s).flatMap AQ)::Rs)) U (λ w11 hS12=>(Aa (Ac ?_)))
 refine Ad (Ae U U (Ab (.BR (.t U) underlying9) U (Aj U U (Ab (.assign .c) U (Aa (Ac (Ah (hE.r2 U U U ?_))))))))
 exact⟨_,rfl,_,M8,rfl,hS12,hle10⟩
theorem bR{w wv:World}{M0 M:Mem}{Rs:List HO}(b:Nat)(a:Value)(l:List Int)(r:Int)(v:Value)(hS:St w M0 wv M (.box b [a,v] 163:: .own 5 1 v l.length (l.flatMap AQ)::Rs))(ha:a= .pointer none\/a=CC b)(hl:len l<=35184372088832)(hc:0<=r/\r<=1114111):
  Calls prog 112 [(.pointer (some ⟨b,0,none⟩)),(.int .i32 r)].toArray wv λ e w'=> ∃u,e= .returned u/\ ∃v' M',u= .tuple #[i64 (len (CB r)),.nilIface]/\St w M0 w' M' (.box b [CC b,v'] 163:: .own 5 1 v' (l++CB r).length ((l++CB r).flatMap AQ)::Rs)/\M.le M':=by
 refine CW.BH func112 U ntmps112 (Nat.le_of_ble_eq_true U) λ Q hE=>?_
 have:=A4 l
 have hz:=Lib.encodeRuneZ_length r
 have hz2:1<=len (CB r)/\len (CB r)<=4:=by unfold len CB;omega
 refine An [0,1] (L':=[Y 0 (.pointer (some ⟨b,0,none⟩)),Y 1 (.int .i32 r)]) ?_ U
 refine Ad (Ab (.assign .c) U (Ab (.assign .c) U (Aa (Ac (Ad ?_)))))
 refine Ae U U ?_
 replace hS:=hS.front 0 U U
 refine RL.DP call149 (.cons (.t U) .nil) (bP (Rs:=(.own 5 1 v l.length (l.flatMap AQ)::Rs)) b a v hS (by first|assumption|exact Or.inr U|exact Or.inl U)) U ?_
 rintro v1 w2 hS4
 refine Aa (CW.at [Y 0 (.pointer (some ⟨b,0,none⟩)),Y 1 (.int .i32 r)] U (Ad (Ae U U (Ab (.IB (.t U)) U (Ab (.BI (q:=⟨b,1,none⟩) (.t U) (λ w=>by kernel_rfl)) U (Ab (.B8 (v:=v) hS4 AR (i:=0) U (.t U) isAgg110 U) U (Ab (.QM (hS4.sl (i:=1) U) (.t U) ⟨_,underlying110⟩) U (Aj U U (Aa (Ac ?_))))))))))
 refine Ad (Ae U U (Ae U U (Ab (.IB (.t U)) U (Ab (.BI (q:=⟨b,1,none⟩) (.t U) (λ w=>by kernel_rfl)) U (Ab (.B8 (v:=v) hS4 AR (i:=0) U (.t U) isAgg110 U) U (Ae U U ?_))))))
 replace hS4:=hS4.front 1 U U
 refine RL.DP call150 (.cons (.t U) (.cons (.t U) .nil)) (AA6 (Rs:=(.box b [(CC b),v] 163::Rs)) l r v hS4 (by first|assumption|omega) (by omega)) U ?_
 rintro v6 w7 ⟨M8,hS9,hle10⟩
 refine Ab (.IB (.t U)) U (Ab (.BI (q:=⟨b,1,none⟩) (.t U) (λ w=>by kernel_rfl)) U ?_)
 refine RL.YY (v:=v6) hS9 (hS9.sl (i:=0) U) (i:=1) U (.t U) (.t U) sizeOf110 U (cs':=[(CC b),v6]) U (Hs':=(.own 5 1 v6 (l++CB r).length ((l++CB r).flatMap AQ):: .box b [(CC b),v6] 163::Rs)) U (λ w11 hS12=>?_)
 refine Aa (CW.at [Y 0 (.pointer (some ⟨b,0,none⟩)),Y 6 (i64 (len l))] U (Ad (Ae U U (Ab (.IB (.t U)) U (Ab (.BI (q:=⟨b,1,none⟩) (.t U) (λ w=>by kernel_rfl)) U (Ab (.B8 (v:=v6) hS12 AR (i:=1) U (.t U) isAgg110 U) U (Ab (.QM (hS12.sl (i:=0) U) (.t U) ⟨_,underlying110⟩) U (Ae U U (Ab (.sub (.t U) (.t U) (λ _=>by first|omega|(simp only[A5,A6,len_nil];omega))) U (Aj U U (Ab (.assign .c) U (Aa (Ac ?_)))))))))))))
 refine Ah (hE.r2 U U U ?_)
 replace hS12:=(hS12.front 0 U U).front 1 U U
 exact⟨_,rfl,_,M8,by rw[A5,show len l+len (CB r)-len l=len (CB r)from by omega],hS12,hle10⟩
def DV(c:Int):Int:=((c.toNat|||32:Nat):Int)
theorem AA8{c:Int}(h0:0<=c)(h1:c<=255):bits .or .u8 c 32=DV c:=u8_or c 32 h0 (by omega) (by decide) (by decide)
def l8(c:Int):Bool:=
 decide (DV c<=255)&&(decide (48<=c/\c<=57)||(if 97<=DV c/\DV c<=122 then(if DV c<=102 then decide (BU c=DV c-87)else decide (BU c= -1))else decide (BU c= -1)))
theorem AA9:(List.range 256).all (λ n=>l8 (n:Int))=true:=by decide+kernel
theorem AB0{c:Int}(h0:0<=c)(h1:c<=255):(0<=DV c/\DV c<=255)/\(97<=DV c->DV c<=122-> ¬(48<=c/\c<=57)->(DV c<=102->BU c=DV c-87)/\(102<DV c->BU c= -1))/\
  (¬(97<=DV c/\DV c<=122)-> ¬(48<=c/\c<=57)->BU c= -1):=by
 have h:=List.all_eq_true.1 AA9 c.toNat (List.mem_range.2 (by omega))
 rw[show((c.toNat:Nat):Int)=c from by omega]at h
 have hz:0<=DV c:=by unfold DV;omega
 unfold l8 at h
 simp only[Bool.and_eq_true,Bool.or_eq_true,decide_eq_true_eq]at h
 generalize DV c=y at*
 generalize BU c=z at*
 refine⟨⟨hz,h.1⟩,λ h2 h3 h4=>?_,λ h2 h4=>?_⟩
 ·rcases h.2 with h5|h5
  ·exact absurd h5 h4
  ·rw[if_pos ⟨h2,h3⟩]at h5
   constructor
   ·intro h6;rw[if_pos h6]at h5;simpa using h5
   ·intro h6;rw[if_neg (by omega)]at h5;simpa using h5
 ·rcases h.2 with h5|h5
  ·exact absurd h5 h4
  ·rw[if_neg h2]at h5;simpa using h5
theorem AB1{c:Int}(h:48<=c/\c<=57):BU c=c-48:=by unfold BU;rw[if_pos h]
theorem ints_at{s:A1}{k:Int}(h0:0<=k)(h1:k<len s):at' (ints s) k=A2 s k:=by
 have h:k.toNat<s.length:=by unfold len at h1;omega
 simp[at',ints,A2,h]
abbrev l9:A1:=[48,49,50,51,52,53,54,55,56,57,97,98,99,100,101,102,103,104,105,106,107,108,109,110,111,112,113,114,115,116,117,118,119,120,121,122]
theorem AB2: ∀n:Nat,n<16->A2 l9 (n:Int)=FO (n:Int):=by decide+kernel
theorem lA{n:Int}(h0:0<=n)(h1:n<16):A2 l9 n=FO n:=by
 have:=AB2 n.toNat (by omega)
 rwa [show((n.toNat:Nat):Int)=n from by omega]at this
theorem WU(x:Int)(h0:0<=x)(h1:x<18446744073709551616):bits .and .u64 x 15=x%16:=by
 rw[u64_and x 15 h0 h1 (by decide) (by decide)]
 have h:x.toNat&&& 15=x.toNat%16:=Nat.and_two_pow_sub_one_eq_mod x.toNat 4
 show((x.toNat&&& (15:Nat):Nat):Int)=_
 rw[h];omega
theorem AB3{l:A1}{k:Int}(hl:len l=4)(h0:0<=k)(h1:k<4)(h:ER (Eng.sub l 0 k)=true):0<=FC (Eng.sub l 0 k)/\FC (Eng.sub l 0 k)<=4095:=
 zE h (by rw[FB (by omega) (by omega) (by omega)];omega)
end Go.Proofs.YtmjpjbmeamnfpaaGreatDoor
