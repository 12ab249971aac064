/- For WorldCalm. -/
import Derived.Test.YtijhlbeipglieaaGreatPkSiteP
import Derived.Test.YtijhlbeipglieaaGreatPkSu
set_option linter.all false
set_option maxRecDepth 100000
set_option maxHeartbeats 4000000
namespace aL
open Go List
namespace Site
theorem vX{x:Int}{b:Bl}(hx:0≤x∧x<4096)(hb:b.may 7=true):(bt x b).Fit:=by
  have:=Bl.jk.1 hb
  exact⟨by simp[bt],by simp,by simp,by simp[bt];omega,by simpa[bt]using this.1,by simpa[bt]using this.2,by simp[bt],by simp[bt],by simp[bt],by simp[bt]⟩
theorem nl(f c:Nat)(s:Site)(to:Int)(h:8≤c∨bV s.me s.nx s.n<0∨to≤bV s.me s.nx s.n):cG (f+1) c s to=s:=by
  unfold cG
  split
  · rfl
  · rw[if_pos (by omega)]
theorem KO(f c:Nat)(s:Site)(to:Int)(hc:¬ 8≤c)(hx:¬ (bV s.me s.nx s.n<0∨to≤bV s.me s.nx s.n))(hf:s.fresh (bV s.me s.nx s.n)=true)(ha:s.accept (bV s.me s.nx s.n) s.bQ []=none):cG (f+1) c s to=s:=by
  unfold cG
  rw[if_neg hc,if_neg hx,if_pos hf,ha]
theorem tx(f c:Nat)(s t:Site)(to:Int)(hc:¬ 8≤c)(hx:¬ (bV s.me s.nx s.n<0∨to≤bV s.me s.nx s.n))(hf:s.fresh (bV s.me s.nx s.n)=true)(ha:s.accept (bV s.me s.nx s.n) s.bQ []=some t) :
    cG (f+1) c s to=cG f (c+1) (t.iI s.bQ (bV s.me s.nx s.n)) to:=by
  conv=>lhs;unfold cG
  rw[if_neg hc,if_neg hx,if_pos hf,ha]
theorem tu(f c:Nat)(s:Site)(to:Int)(hc:¬ 8≤c)(hx:¬ (bV s.me s.nx s.n<0∨to≤bV s.me s.nx s.n))(hf:s.fresh (bV s.me s.nx s.n)=false) :
    cG (f+1) c s to=cG f c {s with nx:=(bV s.me s.nx s.n+1).toNat} to:=by
  conv=>lhs;unfold cG
  rw[if_neg hc,if_neg hx,if_neg (by rw[hf];simp)]
end Site
end aL
namespace Go.Proofs.YtijhlbeipglieaaGreat
open Go.RowKit aL Go.Maps Tryz List
def oI(w:World)(g:Nat):Nat:=match w.cell? ⟨g,9,none⟩ with|some (.int _ x)=>(4098 - x).toNat|_=>0
section
variable [eA]
theorem aJ.oI{w:World}{M:ae}(h:aJ w M):Proofs.YtijhlbeipglieaaGreat.oI w M.gs=4098-M.nx:=by
  have:w.cell? ⟨M.gs,9,none⟩=some (.int .i64 (M.nx:Int)):=h.aO.cell 9
  unfold Proofs.YtijhlbeipglieaaGreat.oI
  rw[this]
  show(4098-(M.nx:Int)).toNat=_
  omega
theorem uc(w:World)(M:ae)(h:aJ w M)(to:Int)(hl:M.held.length≤700000000) :
    Calls prog 96 #[M.ptr,.int .i64 to] w fun e w'=>e=.returned (.tuple #[])∧lY w w' M (M.pl.skip to):=by
  obtain⟨R,hR⟩:=bk (M.pl.skip to)
  have HR:=aA (show Site.cG 4098 0 M.pl to=R from hR)
  rw[hR]
  clear hR
  rw[ae.ptr]
  have lz:M.me<M.n:=h.ok.me
  have vC:M.n≤7:=h.ok.n7
  go_enter func96,ntmps96
  refine wk ?_
  go_loopw [4] (fun v4 wr=>∃(c f:Nat)(M':ae),v4=.int .i64 (c:Int)∧c≤8∧aJ wr M'∧Site.cG f c M'.pl to=R∧4098≤f+M'.nx∧M'.gs=M.gs∧M'.rs=M.rs∧M'.me=M.me∧M'.n=M.n∧M'.held.length≤M.held.length+10*c∧ab M.fp M'.fp w wr) (fun _ wr=>oI wr M.gs)
  case atStart=>exact⟨0,4098,M,rfl,by omega,h,HR.out,by omega,rfl,rfl,rfl,rfl,by omega,ab.refl _ _⟩
  case round=>
    obtain⟨c,f,M',rfl,hc8,h',hsk,hfn,hg,bZ,ca,hn,hhl,U⟩:=hrel
    have uG:M'.nx≤4096:=h'.ok.nx
    have F7:=h'.oI
    rw[hg]at F7
    obtain⟨f',rfl⟩:∃f',f=f'+1:=⟨f - 1,by omega⟩
    have Og:=aA hsk
    clear hsk HR
    by_cases hc:c<8
    · have hci:(c:Int)<8:=by omega
      have hcw:=aL.wr ((c:Int)+1)
      have r0:wr.drew.cell? ⟨M.gs,0,none⟩=some (.int .i64 (M.me:Int)):=by rw[←hg,←ca];exact h'.aO.cell 0
      have r1:wr.drew.cell? ⟨M.gs,1,none⟩=some (.int .i64 (M.n:Int)):=by rw[←hg,←hn];exact h'.aO.cell 1
      have r9:wr.drew.cell? ⟨M.gs,9,none⟩=some (.int .i64 (M'.nx:Int)):=by rw[←hg];exact h'.aO.cell 9
      have C1:=wm wr.drew M.me M'.nx M.n (by omega)
      obtain⟨x,hx⟩:=bk (bV M.me M'.nx M.n)
      have uB:=fU M.me M'.nx M.n
      rw[hx]at C1 uB
      have Jc:bV M'.pl.me M'.pl.nx M'.pl.n=x:=by
        show bV (M'.me:Int) M'.nx (M'.n:Int)=x
        rw[ca,hn];exact hx
      have HX:=aA Jc
      clear hx Jc
      repeat' go_step
      go_still_tail 13,(by kernel_rfl)
      change wpList _ _ _ _ _ wr.drew
      repeat' go_step
      refine C1.mono ?_;rintro e w1 ⟨rfl,rfl⟩
      clear C1
      have U1:ab M.fp M'.fp w wr.drew:=U.drew
      have h1:=h'.drew
      clear U h' r0 r1 r9
      by_cases KP:x<0∨to≤x
      · have eQ:R=M'.pl:=by rw[←Og.out,Site.nl _ _ _ _ (.inr (by rw[HX.out];exact KP))]
        have bN:=aA (show lY w wr.drew M R from⟨M',h1,eQ.symm,hg,bZ,U1⟩)
        clear eQ h1 U1
        by_cases hx0:x<0
        · have d0:decide (x<0)=true:=dJ hx0
          refine wk ?_
          exact bodyPost_ret (v:=.tuple #[]) (results_none rfl _ _ _) rfl ⟨rfl,bN.out⟩
        · have d0:decide (x<0)=false:=eE hx0
          have d1:decide (to≤x)=true:=oT
          refine wk ?_
          exact bodyPost_ret (v:=.tuple #[]) (results_none rfl _ _ _) rfl ⟨rfl,bN.out⟩
      · have d0:decide (x<0)=false:=iO
        have d1:decide (to≤x)=false:=iO
        have S5:(M'.nx:Int)≤x∧x<4096:=by rcases uB with h9|h9<;>omega
        have Uw:=aL.wr (x+1)
        have SW:(((x+1).toNat:Nat):Int)=x+1:=by omega
        have C2:=vP wr.drew M' h1 x (kt (by omega) (by omega))
        have YB:=aA (show ¬ (bV M'.pl.me M'.pl.nx M'.pl.n<0∨to≤bV M'.pl.me M'.pl.nx M'.pl.n) by rw[HX.out];exact KP)
        obtain⟨F,hF⟩:=bk (M'.pl.fresh x)
        have HF:=aA (show M'.pl.fresh (bV M'.pl.me M'.pl.nx M'.pl.n)=F by rw[HX.out];exact hF)
        rw[hF,ae.ptr,hg]at C2
        clear hF uB KP
        have FX:(⟨0,M.me⟩:Bl).may 7=true:=by
          have:=h1.ok.own
          rw[show M'.pl.bQ=(⟨0,M.me⟩:Bl) by unfold Site.bQ;show(⟨0,(M'.me:Int)⟩:Bl)=_;rw[ca]]at this
          exact this
        cases F with
        |false=>
          repeat' first|go_guarded|go_step|simp only[];go_at_K
          refine C2.mono ?_;rintro e w3 ⟨rfl,cQ⟩
          have h3:=h1.aN cQ
          have t9:w3.cell? ⟨M.gs,9,none⟩=some (.int .i64 (M'.nx:Int)):=by rw[←hg];exact h3.aO.cell 9
          have f9:w3.frozen? ⟨M.gs,9,none⟩=false:=by rw[←hg];exact h3.aO.frozen 9
          have u7:ab [M'.gs] [M'.gs] w3 (w3.setCell ⟨M'.gs,9,none⟩ (.int .i64 (x+1))):=(ab.refl [M'.gs] w3).setCell (p:=⟨M'.gs,9,none⟩) (.inl (by simp)) _
          have sN:=h3.aO.cc 9 (.int .i64 (x+1))
          have h7:=h3.yD M'.down M'.top (x+1).toNat u7 (by simpa[ae.cells,SW]using sN) (h3.ok.jI (k:=(x+1).toNat) (by omega))
          obtain⟨M7,qU⟩:∃M7:ae,{M' with down:=M'.down,top:=M'.top,nx:=(x+1).toNat} =M7:=⟨_,rfl⟩
          rw[qU]at h7
          have rG:M7.pl= {M'.pl with nx:=(x+1).toNat}:=by rw[←qU];rfl
          have lU:M7.nx=(x+1).toNat∧M7.gs=M'.gs∧M7.rs=M'.rs∧M7.me=M'.me∧M7.n=M'.n∧M7.held=M'.held∧M7.fp=M'.fp:=by rw[←qU];exact⟨rfl,rfl,rfl,rfl,rfl,rfl,rfl⟩
          clear qU
          have U7:=(U1.trans (cQ.up _)).trans (u7.mono (a':=M'.fp) (b':=M'.fp) (fun k hk=>by simp only[mem_singleton]at hk;subst hk;simp[ae.fp]) (fun k hk=>.inr (.inl hk)))
          have F8:=h7.oI
          have hS:=Site.tu f' c M'.pl to (by omega) YB.out HF.out
          rw[Og.out,HX.out,←rG]at hS
          obtain⟨s1,s2,s3,s4,s5,s6,s7⟩:=lU
          rw[←s7]at U7
          rw[s2,s1]at F8
          have bN:=aA (show ∃(c' f:Nat)(M2:ae),Value.int .i64 (c:Int)=.int .i64 (c':Int)∧c'≤8∧aJ (w3.setCell ⟨M.gs,9,none⟩ (.int .i64 (x+1))) M2∧Site.cG f c' M2.pl to=R∧4098≤f+M2.nx∧M2.gs=M.gs∧M2.rs=M.rs∧M2.me=M.me∧M2.n=M.n∧M2.held.length≤M.held.length+10*c'∧ab M.fp M2.fp w (w3.setCell ⟨M.gs,9,none⟩ (.int .i64 (x+1))) from
            ⟨c,f',M7,rfl,hc8,by rw[←hg];exact h7,hS.symm,by omega,s2.trans hg,s3.trans bZ,s4.trans ca,s5.trans hn,by rw[s6];exact hhl,by rw[←hg,s7];rw[s7]at U7;exact U7⟩)
          have KM:=aA (show oI (w3.setCell ⟨M.gs,9,none⟩ (.int .i64 (x+1))) M.gs<oI wr M.gs by
            have e1:oI (w3.setCell ⟨M.gs,9,none⟩ (.int .i64 (x+1))) M.gs=4098-(x+1).toNat:=by rw[←hg];exact F8
            rw[e1,F7];omega)
          clear C2 h1 h3 u7 sN h7 U7 F8 hS cQ U1 s1 s2 s3 s4 s5 s6 s7
          refine wk ?_
          exact⟨bN.out,KM.out⟩
        |true=>
          have ahP:M.gs∈M'.fp:=by rw[←hg];simp[ae.fp]
          repeat' first|go_guarded|go_step|simp only[];go_at_K
          refine C2.mono ?_;rintro e w3 ⟨rfl,cQ⟩
          have h3:=h1.aN cQ
          have r0:w3.cell? ⟨M.gs,0,none⟩=some (.int .i64 (M.me:Int)):=by rw[←hg,←ca];exact h3.aO.cell 0
          obtain⟨Wb,Hb,SO,SP,nY,Ub⟩:=cb w3 30 #[.int .i64 0,.int .i64 (M.me:Int)]
          have h4:=h3.aN Ub
          have U4:=(U1.trans (cQ.up _)).trans ((Ub.gives (b':=[]) (by simp)).up M'.fp)
          have gU:Hb∉M'.fp:=fun hk=>by have:=h3.lt Hb hk;omega
          have C6:=nQ Wb M' h4 x (by omega) ⟨0,M.me⟩ FX none 0 0 [] (bE.nil _ _) (by simp[ak]) (by simp)
          have hown:M'.pl.bQ=(⟨0,M.me⟩:Bl):=by unfold Site.bQ;show(⟨0,(M'.me:Int)⟩:Bl)=_;rw[ca]
          simp only[ae.ptr,Bl.val,hg]at C6
          obtain⟨⟨b0,b1⟩,-⟩:=nY.c2
          clear C2 h3 cQ U1 Ub
          cases cM:M'.pl.accept x ⟨0,M.me⟩ [] with
          |none=>
            rw[cM]at C6
            have eQ:R=M'.pl:=by rw[←Og.out,Site.KO _ _ _ _ (by omega) YB.out HF.out (by rw[HX.out,hown];exact cM)]
            have ot:=aA eQ
            clear eQ
            repeat' first|go_step|simp only[];go_at_K
            refine C6.mono ?_;rintro e w6 ⟨rfl,M1,H6,gO,jG,xB,U6⟩
            have bN:=aA (show lY w w6 M R from⟨M1,H6,gO.trans ot.out.symm,jG.trans hg,xB.trans bZ,U4.trans U6⟩)
            clear C6 H6 U6 U4
            refine wk ?_
            exact bodyPost_ret (v:=.tuple #[]) (results_none rfl _ _ _) rfl ⟨rfl,bN.out⟩
          |some t=>
            rw[cM]at C6
            have hS:=Site.tx f' c M'.pl t to (by omega) YB.out HF.out (by rw[HX.out,hown];exact cM)
            rw[Og.out,HX.out,hown]at hS
            have HS:=aA hS
            obtain⟨tm,tn,th,-,-,-,-⟩:=Site.j6 cM
            clear hS cM
            repeat' first|go_step|simp only[];go_at_K
            refine C6.mono ?_;rintro e w6 ⟨rfl,M1,H6,gO,jG,xB,U6⟩
            replace gO:M1.pl=t:=gO
            have g1:M1.gs=M.gs:=jG.trans hg
            have me1:M1.me=M.me:=(congrArg Site.me gO).trans (tm.trans ca)
            have n1:M1.n=M.n:=(congrArg Site.n gO).trans (tn.trans hn)
            have l1:M1.held.length=M'.held.length:=by have:=congrArg (fun z:Site=>z.held.length) gO;simp only[ae.cE,th]at this;exact this
            have K6:=nY.aq U6 gU
            have QV:=U6.gu gU nY.lt
            clear b0 b1
            obtain⟨⟨b0,b1⟩,-⟩:=K6.c2
            clear C6
            repeat' first|go_step|simp only[];go_at_K
            obtain⟨W7,G,eW7,hG,nW,U7⟩:=cb w6 32 #[.int .i64 2,.int .i64 0,.int .i64 0,.int .i64 x,.int .i64 0,.int .i64 (M.me:Int),.int .i64 0,.int .i64 0,.bool false,.slice none 0 0]
            rw[eW7,hG]
            have h7:=H6.aN U7
            have Oh:G∉M1.fp:=fun hk=>by have:=H6.lt G hk;omega
            have mB:(Mv.ms ⟨2,0,0,x,0,M.me,0,0,false,none,0,0,[]⟩).Fit:=Site.vX (x:=x) (b:=⟨0,M.me⟩) (by omega) FX
            have C8:=ke W7 M1 h7 ⟨2,0,0,x,0,M.me,0,0,false,none,0,0,[]⟩ mB (bE.nil _ _) (by simp[ak]) (by omega)
            have eF:Mv.ms ⟨2,0,0,x,0,M.me,0,0,false,none,0,0,[]⟩=Site.bt x ⟨0,M.me⟩:=rfl
            rw[eF,gO,n1]at C8
            simp only[ae.ptr,Mv.bJ,g1]at C8
            obtain⟨⟨m0,m1,m2,m3,m4,m5,m6,m7,m8,m9⟩,-⟩:=nW.cJ
            have U67:=(U4.trans U6).trans ((U7.gives (b':=[]) (by simp)).up M1.fp)
            clear H6 U6 U4 K6 nY U7
            refine C8.mono ?_;rintro e w8 ⟨rfl,M2,h8,vJ,EU,Xh,U8⟩
            have K8:=nW.aq U8 Oh
            clear m0 m1 m2 m3 m4 m5 m6 m7 m8 m9 C8
            have me2:M2.me=M.me:=by
              have:=congrArg Site.me vJ
              rw[(Site.ib _ _).1]at this
              exact this.trans (tm.trans ca)
            have n2:M2.n=M.n:=by
              have:=congrArg Site.n vJ
              rw[(Site.ib _ _).2]at this
              exact this.trans (tn.trans hn)
            have l2:M2.held.length≤M'.held.length+7:=by
              have e1:=congrArg (fun z:Site=>z.held.length) vJ
              simp only[ae.cE,Site.bH,length_append,th]at e1
              have e2:=Site.kd t (Site.bt x ⟨0,M.me⟩) M.n
              omega
            have s0:w8.drew.cell? ⟨M.gs,0,none⟩=some (.int .i64 (M.me:Int)):=by rw[←g1,←EU,←me2];exact h8.aO.cell 0
            obtain⟨⟨m0,m1,m2,m3,m4,m5,m6,m7,m8,m9⟩,-⟩:=K8.drew.cJ
            have C9:=jC w8.drew M2 h8.drew (M.me:Int) ⟨2,0,0,x,0,M.me,0,0,false,none,0,0,[]⟩ mB (by omega) (bE.nil _ _) (by omega)
            rw[eF,vJ]at C9
            simp only[ae.ptr,Mv.bJ,EU,g1]at C9
            repeat' first|go_step|simp only[];go_at_K
            go_still_tail 6,(by kernel_rfl)
            change wpList _ _ _ _ _ w8.drew
            repeat' go_step
            refine C9.mono ?_;rintro e w9 ⟨rfl,M3,h9,vK,EV,hr9,U9⟩
            clear m0 m1 m2 m3 m4 m5 m6 m7 m8 m9 C9 K8 s0
            have g3:M3.gs=M.gs:=EV.trans (EU.trans g1)
            have me3:M3.me=M.me:=by have:=congrArg Site.me vK;exact this.trans ((Site.ib _ _).1.trans (tm.trans ca))
            have n3:M3.n=M.n:=by have:=congrArg Site.n vK;exact this.trans ((Site.ib _ _).2.trans (tn.trans hn))
            have l3:M3.held.length≤M'.held.length+8:=by
              have e1:=congrArg (fun z:Site=>z.held.length) vK
              rw[←vJ]at e1
              simp only[ae.cE,Site.send,length_append,length_cons,length_nil]at e1
              omega
            have u7:ab [M3.gs] [M3.gs] w9 (w9.setCell ⟨M3.gs,9,none⟩ (.int .i64 (x+1))):=(ab.refl [M3.gs] w9).setCell (p:=⟨M3.gs,9,none⟩) (.inl (by simp)) _
            have sN:=h9.aO.cc 9 (.int .i64 (x+1))
            have t9:w9.cell? ⟨M.gs,9,none⟩=some (.int .i64 (M3.nx:Int)):=by rw[←g3];exact h9.aO.cell 9
            have f9:w9.frozen? ⟨M.gs,9,none⟩=false:=by rw[←g3];exact h9.aO.frozen 9
            have mK:=h9.yD M3.down M3.top (x+1).toNat u7 (by simpa[ae.cells,SW]using sN) (h9.ok.jI (k:=(x+1).toNat) (by omega))
            obtain⟨M4,pU⟩:∃M4:ae,{M3 with down:=M3.down,top:=M3.top,nx:=(x+1).toNat} =M4:=⟨_,rfl⟩
            rw[pU]at mK
            have YC:M4.pl=t.iI ⟨0,M.me⟩ x:=by
              have e1:M4.pl= {M3.pl with nx:=(x+1).toNat}:=by rw[←pU];rfl
              rw[e1,vK]
              unfold Site.iI
              rw[tm,tn,show M'.pl.me=M.me from ca,show M'.pl.n=M.n from hn]
            obtain⟨q1,q2,q3,q4,q5,q6,q7⟩:M4.nx=(x+1).toNat∧M4.gs=M3.gs∧M4.rs=M3.rs∧M4.me=M3.me∧M4.n=M3.n∧M4.held=M3.held∧M4.fp=M3.fp:=by rw[←pU];exact⟨rfl,rfl,rfl,rfl,rfl,rfl,rfl⟩
            have Sh:ab M.fp M4.fp w (w9.setCell ⟨M3.gs,9,none⟩ (.int .i64 (x+1))):=by
              rw[q7]
              exact(((U67.trans U8).drew).trans U9).trans (u7.mono (a':=M3.fp) (b':=M3.fp) (fun k hk=>by simp only[mem_singleton]at hk;subst hk;simp[ae.fp]) (fun k hk=>.inr (.inl hk)))
            have F8:=mK.oI
            rw[q2,q1]at F8
            have bN:=aA (show ∃(c' f:Nat)(M2:ae),Value.int .i64 ((c:Int)+1)=.int .i64 (c':Int)∧c'≤8∧aJ (w9.setCell ⟨M.gs,9,none⟩ (.int .i64 (x+1))) M2∧Site.cG f c' M2.pl to=R∧4098≤f+M2.nx∧M2.gs=M.gs∧M2.rs=M.rs∧M2.me=M.me∧M2.n=M.n∧M2.held.length≤M.held.length+10*c'∧ab M.fp M2.fp w (w9.setCell ⟨M.gs,9,none⟩ (.int .i64 (x+1))) from
              ⟨c+1,f',M4,by simp,by omega,by rw[←g3];exact mK,by rw[YC];exact HS.out.symm,by omega,q2.trans g3,q3.trans (hr9.trans (Xh.trans (xB.trans bZ))),q4.trans me3,q5.trans n3,by rw[q6];omega,by rw[←g3];exact Sh⟩)
            have KM:=aA (show oI (w9.setCell ⟨M.gs,9,none⟩ (.int .i64 (x+1))) M.gs<oI wr M.gs by
              have e1:oI (w9.setCell ⟨M.gs,9,none⟩ (.int .i64 (x+1))) M.gs=4098-(x+1).toNat:=by rw[←g3];exact F8
              rw[e1,F7];omega)
            clear h9 u7 sN mK Sh F8 U9 h8 U8 U67 YC pU q1 q2 q3 q4 q5 q6 q7
            refine wk ?_
            exact⟨bN.out,KM.out⟩
    · have eQ:R=M'.pl:=by rw[←Og.out,Site.nl _ _ _ _ (.inl (by omega))]
      have hci:¬ (c:Int)<8:=by omega
      have bN:=aA (show lY w wr M R from⟨M',h',eQ.symm,hg,bZ,U⟩)
      clear eQ h' U
      refine wk ?_
      exact bodyPost_end (results_none rfl _ _ _) rfl ⟨rfl,bN.out⟩
theorem xC(w:World)(M:ae)(h:aJ w M)(x:Int)(hx:0≤x∧x<4096)(b:Bl)(hb:b.may 7=true) :
    Calls prog 166 #[M.ptr,.int .i64 x,b.val] w fun e w'=>e=.returned (.bool (M.pl.promise x b).isSome)∧lY w w' M ((M.pl.promise x b).getD M.pl):=by
  have eO:(Lit.int .i64 x).wf=true:=kt (by omega) (by omega)
  obtain⟨W,H,eW,hH,hB,U0⟩:=cb w 30 #[.int .i64 b.r,.int .i64 b.s]
  have h1:=h.aN U0
  have hl:=h1.look eO
  obtain⟨hb1,hb2,hb3⟩:=h1.sK x
  have np:=h.ok.stat x
  rw[←ae.nZ]at np
  have HN:=aA (show M.pl.promise x b=if b.r<1∨dr b (M.dA x).p<0 then none else M.pl.note {(M.dA x).pl with p:=b} ⟨1,x,b.r,b.s,[]⟩ by
    unfold Site.promise;rw[←ae.nZ];rfl)
  obtain⟨R,hR⟩:=bk (M.pl.promise x b)
  rw[hR]at HN ⊢
  clear hR
  have C:∀(Wx:World)(hU:ab [] [] W Wx),Calls prog 231 #[(M.dA x).val,b.val] Wx fun e w'=>∃z:cP,e=.returned (.tuple #[.agg #[.int .i64 z.p.r,.int .i64 z.p.s,.bool z.so,.int .i64 z.at_.r,.int .i64 z.at_.s,.slice z.A z.n z.c],.bool (lJ (M.dA x) b).isSome])∧
      ((lJ (M.dA x) b).isSome=true→z.pl= {(M.dA x).pl with p:=b}∧bW 5 w' z.A z.n z.c z.b)∧ab [] (ak z.A) Wx w':=fun Wx hU=>by
    refine(Ju Wx (M.dA x) b (bE.aq hb1.rd hU (by simp)) (by have:=hb3;omega)).mono ?_
    rintro e w' ⟨A,n,c,ho,hu,rfl⟩
    refine⟨{M.dA x with p:=(lJ (M.dA x) b).getD (M.dA x).p,A:=A,n:=n,c:=c},rfl,fun hh=>⟨?_,ho⟩,hu⟩
    have hp:lJ (M.dA x) b=some b:=by
      unfold lJ at hh ⊢
      split
      · rename_i hc;rw[if_pos hc]at hh;cases hh
      · rfl
    simp only[cP.pl,hp,Option.getD_some]
  obtain⟨Z,hZ⟩:∃Z:World,W.alloc (.cells #[.int .i64 0,.int .i64 0,.bool false,.int .i64 0,.int .i64 0,.slice none 0 0] 37)=Z:=⟨_,rfl⟩
  have UZ:ab [] [] W Z:=by rw[←hZ];exact(ab.refl [] W).alloc _
  have BZ:aQ Z W.heap.size 37 #[.int .i64 0,.int .i64 0,.bool false,.int .i64 0,.int .i64 0,.slice none 0 0]:=by rw[←hZ];exact aQ.new _ _ _
  have fR:(Instr.lookup 117 (.map (some M.bs)) (.int .i64 x) false).run prog W.drew=.ok (M.dA x).val W.drew:=h1.drew.look eO
  have hl2:(Instr.lookup 117 (.map (some M.bs)) (.int .i64 x) false).run prog Z.drew=.ok (M.dA x).val Z.drew:=(h1.aN UZ).drew.look eO
  obtain⟨⟨p0,p1⟩,-⟩:=hB.c2
  obtain⟨⟨r0,r1⟩,-⟩:=(hB.aq UZ (by simp)).c2
  have q5:W.cell? ⟨M.gs,5,none⟩=some (.map (some M.bs)):=h1.aO.cell 5
  have s5:Z.cell? ⟨M.gs,5,none⟩=some (.map (some M.bs)):=(h1.aN UZ).aO.cell 5
  have xF:=hB.lt
  have wi:=aA (show(lJ (M.dA x) b).isSome=!decide (b.r<1∨dr b (M.dA x).p<0) by unfold lJ;split<;>simp_all)
  clear hl hb1 hb2
  generalize M.dA x=y at *
  obtain⟨yv,Yc⟩:∃z,y.val=z:=⟨_,rfl⟩
  obtain⟨ac,zZ⟩:∃z,(lJ y b).isSome=z:=⟨_,rfl⟩
  simp only[Yc,zZ]at C fR hl2
  rw[zZ]at wi
  rw[Bl.val,ae.ptr]
  simp only[Bl.val]at C
  clear zZ
  go_enter func166,ntmps166
  repeat' go_step
  go_cut [7,8]from 9 (fun s7 s8 wc=>∃(g:Nat)(z:cP),s7=.pointer (some ⟨g,0,none⟩)∧s8=.bool ac∧aQ wc g 37 #[.int .i64 z.p.r,.int .i64 z.p.s,.bool z.so,.int .i64 z.at_.r,.int .i64 z.at_.s,.slice z.A z.n z.c]∧
    (ac=true→z.pl= {y.pl with p:=b}∧bW 5 wc z.A z.n z.c z.b)∧W.heap.size≤g∧(∀k∈ak z.A,W.heap.size≤k)∧ab [] [] W wc)
  case first=>
    go_region_with (first
      |(go_at_call 231;(with_reducible refine(C W.drew (ab.refl [] W).drew).mono ?_);rintro e W1 ⟨z,rfl,hz,hu⟩)
      |(go_at_call 231;(try rw[hZ]);(with_reducible refine(C Z.drew UZ.drew).mono ?_);rintro e W1 ⟨z,rfl,hz,hu⟩;have K:=BZ.drew.aq hu (by simp);obtain⟨⟨k0,k1,k2,k3,k4,k5⟩,e0,e1,e2,e3,e4,e5⟩:=K.c6)
      |(rw[hZ]))
    all_goals (refine wk ?_)
    all_goals go_meet
    all_goals first
      |(
         have KK:=mz K (.int .i64 z.p.r) (.int .i64 z.p.s) (.bool z.so) (.int .i64 z.at_.r) (.int .i64 z.at_.s) (.slice z.A z.n z.c)
         have u6:=mA W1 W.heap.size (.int .i64 z.p.r) (.int .i64 z.p.s) (.bool z.so) (.int .i64 z.at_.r) (.int .i64 z.at_.s) (.slice z.A z.n z.c)
         have uT:=UZ.drew.new hu
         have mP:=(ab.refl [] Z).drew.new hu
         have U6:=((UZ.drew.trans hu).own (Nat.le_refl _) u6).gives (b':=[]) (by simp)
         have E6:ac=true→z.pl= {y.pl with p:=b}∧bW 5 (ta W1 W.heap.size (.int .i64 z.p.r) (.int .i64 z.p.s) (.bool z.so) (.int .i64 z.at_.r) (.int .i64 z.at_.s) (.slice z.A z.n z.c)) z.A z.n z.c z.b:=fun ha=>⟨(hz ha).1,(hz ha).2.aq u6 (fun k hk=>by
           have h8:=BZ.lt
           have h9:Z.heap.size≤k:=mP k hk
           simp only[mem_singleton];omega)⟩
         exact⟨W.heap.size,z,rfl,rfl,KK,E6,Nat.le_refl _,uT,U6⟩)
      |(
         have KK:=aQ.new W1 37 #[.int .i64 z.p.r,.int .i64 z.p.s,.bool z.so,.int .i64 z.at_.r,.int .i64 z.at_.s,.slice z.A z.n z.c]
         have U6:=((((ab.refl [] W).drew.trans hu).alloc (.cells #[.int .i64 z.p.r,.int .i64 z.p.s,.bool z.so,.int .i64 z.at_.r,.int .i64 z.at_.s,.slice z.A z.n z.c] 37)).gives (b':=[]) (by simp))
         have uT:=(ab.refl [] W).drew.new hu
         have SU:W.heap.size≤W1.heap.size:=hu.size
         exact⟨W1.heap.size,z,rfl,rfl,KK,fun ha=>⟨(hz ha).1,(hz ha).2.alloc _⟩,SU,uT,U6⟩)
  case rest=>
    obtain⟨g,z,rfl,rfl,uU,hz,rE,Cx,U1⟩:=hcut
    have hs:=h1.aN U1
    have nY:=hB.aq U1 (by simp)
    have U2:=U0.trans (U1.up _)
    have Aa:=aA U2
    have hf:=h.lt
    have N9:=h.po
    clear C UZ BZ fR hl2 h1 hB U1 p0 p1 r0 r1 q5 s5 U2
    cases ac with
    |false=>
      refine wk ?_
      have HR:=HN.out
      rw[if_pos (Classical.byContradiction fun hc=>by have h9:=wi.out;rw[eE hc]at h9;cases h9)]at HR
      subst HR
      go_ret
      exact⟨rfl,M,hs,rfl,rfl,rfl,Aa.out.mono (by simp) (fun k hk=>.inr (.inl hk))⟩
    |true=>
      obtain⟨ez,FT⟩:=hz rfl
      have ik:=Bl.jk.1 hb
      have ezb:z.b=y.b:=congrArg Sp.b ez
      have ezp:z.p=b:=congrArg Sp.p ez
      have eza:z.at_=y.at_:=congrArg Sp.at_ ez
      have C3:=FR wc M hs z ⟨1,x,b.r,b.s,none,0,0,[]⟩ ⟨FT.rd,FT.own.tag⟩ (fun k hk hm=>by have h7:=Cx k hk;have h8:=hf k hm;have h9:=Aa.out.size;have:=U0.size;omega) (fun k hk hm=>by have h7:=Cx k hk;have h8:=N9 k hm;have h9:=Aa.out.size;have:=U0.size;omega) (by rw[ezb,ezp,eza];exact⟨hb3,hb,np.2.2⟩) (bE.nil _ _) ⟨.inl ⟨rfl,rfl⟩,by show 0≤x∧x≤4095;omega,ik.1,ik.2,by simp[Rv.rc]⟩
      obtain⟨⟨a0,a1,a2,a3,a4,a5⟩,-⟩:=uU.c6
      obtain⟨⟨b0,b1⟩,-⟩:=nY.c2
      rw[ez]at C3
      have HR:=HN.out
      rw[if_neg (by have:=wi.out;simpa using this.symm)]at HR
      rw[show(⟨1,x,b.r,b.s,none,0,0,[]⟩:Rv).rc=⟨1,x,b.r,b.s,[]⟩from rfl,←HR]at C3
      simp only[ae.ptr,cP.val,Rv.bJ]at C3
      clear HR HN hs FT nY uU hz ez ezb ezp eza np hb3
      repeat' first|go_guarded|go_step
      refine C3.mono ?_;rintro e w3 ⟨rfl,M3,h3,p3,g3,r3,V3⟩
      refine wk ?_
      go_ret
      exact⟨rfl,M3,h3,p3,g3,r3,(Aa.out.mono (a':=M.fp) (b':=M.fp) (by simp) (fun k hk=>.inr (.inl hk))).trans V3⟩
end
def ae.ub(M:ae)(x:Int)(b:Bl):Mv:=⟨4,0,0,x,b.r,b.s,(M.dA x).at_.r,(M.dA x).at_.s,(M.dA x).so,(M.dA x).A,(M.dA x).n,(M.dA x).c,(M.dA x).b⟩
theorem ae.wN(M:ae)(x:Int)(b:Bl):(M.ub x b).ms=M.pl.answer x b:=by
  unfold Site.answer
  rw[←ae.nZ]
  rfl
variable [eA]
theorem zA(w:World)(M:ae)(h:aJ w M)(x:Int)(hx:(Lit.int .i64 x).wf=true)(b:Bl) :
    Calls prog 167 #[M.ptr,.int .i64 x,b.val] w fun e w'=>e=.returned (M.ub x b).val∧ab [] [] w w':=by
  obtain⟨W,H1,H2,H3,eW,h1,h2,h3,gh,cX,iM,U0⟩:=DF w 30 32 37 #[.int .i64 b.r,.int .i64 b.s] #[.int .i64 0,.int .i64 0,.int .i64 0,.int .i64 0,.int .i64 0,.int .i64 0,.int .i64 0,.int .i64 0,.bool false,.slice none 0 0] #[.int .i64 (M.dA x).p.r,.int .i64 (M.dA x).p.s,.bool (M.dA x).so,.int .i64 (M.dA x).at_.r,.int .i64 (M.dA x).at_.s,.slice (M.dA x).A (M.dA x).n (M.dA x).c]
  have Ua:ab [] [] w ((w.alloc (.cells #[.int .i64 b.r,.int .i64 b.s] 30)).alloc (.cells #[.int .i64 0,.int .i64 0,.int .i64 0,.int .i64 0,.int .i64 0,.int .i64 0,.int .i64 0,.int .i64 0,.bool false,.slice none 0 0] 32)):=((ab.refl [] w).alloc _).alloc _
  have l1:=(h.aN Ua).look hx
  have q5:=(h.aN Ua).aO.cell 5
  change World.cell? _ ⟨M.gs,5,none⟩=some (.map (some M.bs))at q5
  unfold ae.ub
  generalize M.dA x=y at *
  have K:=oX cX (.int .i64 4) (.int .i64 0) (.int .i64 0) (.int .i64 x) (.int .i64 b.r) (.int .i64 b.s) (.int .i64 y.at_.r) (.int .i64 y.at_.s) (.bool y.so) (.slice y.A y.n y.c)
  have u:=oW W H2 (.int .i64 4) (.int .i64 0) (.int .i64 0) (.int .i64 x) (.int .i64 b.r) (.int .i64 b.s) (.int .i64 y.at_.r) (.int .i64 y.at_.s) (.bool y.so) (.slice y.A y.n y.c)
  have U:=(U0.gives (b':=[]) (by simp)).own (g:=H2) (by omega) u
  obtain⟨⟨a0,a1,a2,a3,a4,a5⟩,-⟩:=iM.c6
  obtain⟨⟨b0,b1⟩,-⟩:=gh.c2
  obtain⟨⟨e0,e1,e2,e3,e4,e5,e6,e7,e8,e9⟩,f0,f1,f2,f3,f4,f5,f6,f7,f8,f9⟩:=cX.cJ
  simp only[cP.val]at l1
  rw[ae.ptr,Bl.val,Mv.bJ]
  clear h Ua u gh cX iM U0
  go_enter func167,ntmps167
  refine wk ?_
  generalize hW:World.setCell _ _ _=W4
  rw[tq,hW]at K U
  obtain⟨⟨z0,z1,z2,z3,z4,z5,z6,z7,z8,z9⟩,-⟩:=K.cJ
  exact bodyPost_ret (v:=.agg #[.int .i64 4,.int .i64 0,.int .i64 0,.int .i64 x,.int .i64 b.r,.int .i64 b.s,.int .i64 y.at_.r,.int .i64 y.at_.s,.bool y.so,.slice y.A y.n y.c]) (by simp[results,results167,go_sem,z0,z1,z2,z3,z4,z5,z6,z7,z8,z9]) rfl ⟨rfl,U⟩
end Go.Proofs.YtijhlbeipglieaaGreat
namespace aL
open Go List
theorem qX(w:World)(g:Nat)(v0 v1:Value):ab [g] [g] w ((w.setCell ⟨g,0,none⟩ v0).setCell ⟨g,1,none⟩ v1):=((ab.refl [g] w).setCell (p:=⟨g,0,none⟩) (.inl (by simp)) v0).setCell (p:=⟨g,1,none⟩) (.inl (by simp)) v1
theorem qW{w:World}{g:Nat}{t:TypeId}{x0 x1:Value}(h:aQ w g t #[x0,x1])(v0 v1:Value):aQ ((w.setCell ⟨g,0,none⟩ v0).setCell ⟨g,1,none⟩ v1) g t #[v0,v1]:=(h.cc 0 v0).cc 1 v1
theorem Bl.yA{b:Bl}(h:b.may 7=true){me:Nat}(hm:me≤6):(b.next me).may 7=true:=by
  have:=Bl.jk.1 h
  unfold Bl.next
  split
  · omega
  · split
    · exact Bl.jk.2 (by simp only;omega)
    · exact Bl.jk.2 (by simp only;omega)
theorem Site.tZ{s t:Site}{x:Int}{b:Bl}(h:s.promise x b=some t):t.me=s.me∧t.n=s.n∧t.held=s.held∧t.rs=s.rs∧t.stat x= {s.stat x with p:=b}:=by
  unfold Site.promise Site.note at h
  split at h
  · cases h
  · split at h
    · injection h with h
      rw[←h]
      refine⟨rfl,rfl,rfl,rfl,?_⟩
      show(aD x (aT x _ _)).getD _=_
      rw[cO,if_pos rfl]
      rfl
    · cases h
theorem Site.lQ{s:Site}(h:s.Ok){x:Int}(hx:0≤x∧x<4096){b:Bl}(hb:b.may 7=true)(hf:(s.stat x).so=true∨(s.stat x).at_=⟨0,0⟩∧(s.stat x).b= []):(s.answer x b).Fit:=by
  have h1:=Bl.jk.1 hb
  obtain⟨h2,-,h3⟩:=h.stat x
  have h4:=Bl.jk.1 h3
  refine⟨by simp[Site.answer],by simp,by simp,by simp[Site.answer];omega,by simpa[Site.answer]using h1.1,by simpa[Site.answer]using h1.2,by simpa[Site.answer]using h4.1,by simpa[Site.answer]using h4.2,by simpa[Site.answer]using h2,?_⟩
  rcases hf with hf|⟨hf,hg⟩
  · exact .inl hf
  · right;simp[Site.answer,hf,hg]
end aL
namespace Go.Proofs.YtijhlbeipglieaaGreat
open Go.RowKit aL Go.Maps Tryz List
theorem ae.YD(M:ae)(x:Int):M.pl.low x=match aD x M.rs with|some r=>(if 0<dr r.aC (M.dA x).p then r.aC else(M.dA x).p)|none=>(M.dA x).p:=by
  unfold Site.low
  rw[show aD x M.pl.rs=(aD x M.rs).map bS.pl from eB _ _ _,←ae.nZ]
  cases aD x M.rs<;>rfl
variable [eA]
theorem Nt(w:World)(M:ae)(h:aJ w M)(x:Int)(hx:0≤x∧x<4096)(hl:M.held.length≤800000000)(jP:(M.pl.low x).may 7=true)(mB:(M.pl.stat x).so=true∨(M.pl.stat x).at_=⟨0,0⟩∧(M.pl.stat x).b= []) :
    Calls prog 98 #[M.ptr,.int .i64 x] w fun e w'=>e=.returned (.tuple #[])∧dZ w w' M (M.pl.cK x):=by
  have eO:(Lit.int .i64 x).wf=true:=kt (by omega) (by omega)
  have hlk:=h.look eO
  have q5:w.cell? ⟨M.gs,5,none⟩=some (.map (some M.bs)):=h.aO.cell 5
  obtain⟨W,H,eW,hH,hB,U0⟩:=cb w 30 #[.int .i64 (M.dA x).p.r,.int .i64 (M.dA x).p.s]
  have h1:=h.aN U0
  have cv:=U0.gives (b':=[]) (by simp)
  have q8:W.cell? ⟨M.gs,8,none⟩=some (.map (some M.br)):=h1.aO.cell 8
  have mQ:=h1.Dm eO
  have KQ:=aA (ae.YD M x)
  obtain⟨pt,E8⟩:=bk (((aD x M.rs).map bS.ptr).getD (.pointer none))
  obtain⟨th,E9⟩:=bk ((aD x M.rs).isSome)
  rw[E8,E9]at mQ
  have zI:=aA E8
  have Ca:=aA E9
  clear E8 E9
  obtain⟨L,hL⟩:=bk (M.pl.low x)
  rw[hL]at KQ jP
  have Oi:=aA (show M.pl.cK x=if dr (L.next M.me) L≤0 then M.pl else match M.pl.promise x (L.next M.me) with
      |none=>M.pl
      |some t=>((({t with rs:=aT x ⟨L.next M.me,[],false,[],[],0⟩ t.rs} :Site).others (Site.asks ⟨L.next M.me,[],false,[],[],0⟩ x) M.n).send
          (({t with rs:=aT x ⟨L.next M.me,[],false,[],[],0⟩ t.rs} :Site).others (Site.asks ⟨L.next M.me,[],false,[],[],0⟩ x) M.n).me
          ((({t with rs:=aT x ⟨L.next M.me,[],false,[],[],0⟩ t.rs} :Site).others (Site.asks ⟨L.next M.me,[],false,[],[],0⟩ x) M.n).answer x (L.next M.me))) by
    unfold Site.cK
    rw[hL];rfl)
  obtain⟨R,hR⟩:=bk (M.pl.cK x)
  rw[hR]at Oi ⊢
  have hst:(M.dA x).pl=M.pl.stat x:=ae.nZ M x
  clear hR hL
  rw[ae.ptr]
  simp only[cP.val]at hlk
  have ahQ:∀(w:World)(r s:Int)(so:Bool)(ar zR:Int)(A:Option Addr)(n c:Nat),(Instr.field 37 (.agg #[.int .i64 r,.int .i64 s,.bool so,.int .i64 ar,.int .i64 zR,.slice A n c]) 0).run prog w=.ok (.agg #[.int .i64 r,.int .i64 s]) w:=fun _ _ _ _ _ _ _ _ _=>by kernel_rfl
  obtain⟨P,hP⟩:=bk ((M.dA x).p)
  rw[hP]at hlk hB KQ eW
  go_enter func98,ntmps98
  repeat' go_step
  obtain⟨D,hD⟩:=bk ((match aD x M.rs with|some r=>decide (0<dr r.aC P)|none=>false))
  have HD:=aA hD
  clear hD
  go_cut [36]from 27 (fun YE wc=>YE=.bool D∧ab [] [] W wc)
  case first=>
    cases hq:aD x M.rs with
    |none=>
      simp only[hq,Option.map_none,Option.getD_none,Option.isSome_none]at HD zI Ca
      obtain rfl:=zI.out
      obtain rfl:=Ca.out
      have sM:=HD.out
      subst sM
      refine yc (by kernel_rfl) (by kernel_rfl) ?_
      repeat (go_big_quiet_step (fail))
      refine wpQuiet_nil ?_
      rintro _ ⟨p,rfl⟩
      refine wk ?_
      go_meet
      exact⟨rfl,p.u⟩
    |some r=>
      simp only[hq,Option.map_some,Option.getD_some,Option.isSome_some]at HD zI Ca
      obtain rfl:=zI.out
      obtain rfl:=Ca.out
      have sM:=HD.out
      subst sM
      rw[bS.ptr]
      have pT:=h1.cI _ (bG hq)
      have c0:∀p:GU W,p.w.cell? ⟨r.g,0,none⟩=some (.int .i64 r.aC.r):=fun p=>p.u.cell (pT.aO.cell 0) (by simp)
      have c1:∀p:GU W,p.w.cell? ⟨r.g,1,none⟩=some (.int .i64 r.aC.s):=fun p=>p.u.cell (pT.aO.cell 1) (by simp)
      have d0:∀p:GU W,p.w.cell? ⟨H,0,none⟩=some (.int .i64 P.r):=fun p=>p.u.cell (hB.cell 0) (by simp)
      have d1:∀p:GU W,p.w.cell? ⟨H,1,none⟩=some (.int .i64 P.s):=fun p=>p.u.cell (hB.cell 1) (by simp)
      have CW:∀p:GU W,Calls prog 164 #[.agg #[.int .i64 r.aC.r,.int .i64 r.aC.s],.agg #[.int .i64 P.r,.int .i64 P.s]] p.w fun e w'=>e=.returned (.int .i64 (dr r.aC P))∧∃q:GU W,w'=q.w:=
        fun p=>p.call (mv _ r.aC P)
      refine yc (by kernel_rfl) (by kernel_rfl) ?_
      repeat (go_big_quiet_step (exact CW _))
      refine wpQuiet_nil ?_
      rintro _ ⟨p,rfl⟩
      refine wk ?_
      go_meet
      exact⟨rfl,p.u⟩
  case rest=>
    obtain⟨rfl,UD⟩:=hcut
    have Jd:=hB.aq UD (by simp)
    have h2:=h1.aN UD
    go_upto_if 36 with fail
    go_cut [4]from 27 (fun s4 wc=>s4=.pointer (some ⟨H,0,none⟩)∧aQ wc H 30 #[.int .i64 L.r,.int .i64 L.s]∧ab [] [] w wc)
    case first=>
      cases D with
      |false=>
        have hLP:L=P:=by
          have h1:=KQ.out
          have h2:=HD.out
          cases hq:aD x M.rs with
          |none=>simp only[hq]at h1;exact h1
          |some r=>
            simp only[hq,decide_eq_false_iff_not]at h1 h2
            rw[if_neg h2]at h1
            exact h1
        have bN:=aA (show aQ wc H 30 #[.int .i64 L.r,.int .i64 L.s] by rw[hLP];exact Jd)
        clear hLP Jd
        refine wk ?_
        go_meet
        exact⟨rfl,bN.out,cv.trans UD⟩
      |true=>
        cases hq:aD x M.rs with
        |none=>have h2:=HD.out;simp only[hq]at h2;cases h2
        |some r=>
          have Bo:=KQ.out
          have rb:=HD.out
          have Hu:=zI.out
          simp only[hq,decide_eq_true_eq]at Bo rb Hu
          rw[if_pos rb]at Bo
          simp only[Option.map_some,Option.getD_some]at Hu
          subst Bo
          subst Hu
          have pT:=h2.cI _ (bG hq)
          have c0:wc.cell? ⟨r.g,0,none⟩=some (.int .i64 r.aC.r):=pT.aO.cell 0
          have c1:wc.cell? ⟨r.g,1,none⟩=some (.int .i64 r.aC.s):=pT.aO.cell 1
          obtain⟨⟨d0,d1⟩,f0,f1⟩:=Jd.c2
          have bN:=aA (qW Jd (.int .i64 r.aC.r) (.int .i64 r.aC.s))
          have UK:=aA ((cv.trans UD).own (g:=H) (by omega) (qX wc H (.int .i64 r.aC.r) (.int .i64 r.aC.s)))
          rw[bS.ptr]
          clear Jd pT rb hq
          refine wk ?_
          go_meet
          exact⟨rfl,bN.out,UK.out⟩
    case rest=>
      obtain⟨rfl,Oj,UL⟩:=hcut
      clear Jd h2 UD h1 hB U0 cv mQ hlk q5 q8
      have h3:=h.aN UL
      obtain⟨b,hb⟩:=bk (L.next M.me)
      rw[hb]at Oi
      have HBN:=aA hb
      have CN:∀Wx:World,Calls prog 165 #[.agg #[.int .i64 L.r,.int .i64 L.s],.int .i64 (M.me:Int)] Wx fun e w'=>e=.returned (.agg #[.int .i64 b.r,.int .i64 b.s])∧ab [] [] Wx w':=fun Wx=>by
        have:=Js Wx L M.me
        rw[hb]at this;exact this
      clear hb
      obtain⟨Z,hZ⟩:∃Z:World,wc.alloc (.cells #[.int .i64 0,.int .i64 0] 30)=Z:=⟨_,rfl⟩
      have UZ:ab [] [] wc Z:=by rw[←hZ];exact(ab.refl [] wc).alloc _
      have BZ:aQ Z wc.heap.size 30 #[.int .i64 0,.int .i64 0]:=by rw[←hZ];exact aQ.new _ _ _
      have Ya:H<wc.heap.size:=Oj.lt
      have Je:=Oj.aq UZ (by simp)
      obtain⟨⟨p0,p1⟩,-⟩:=Oj.drew.c2
      obtain⟨⟨r0,r1⟩,-⟩:=Je.drew.c2
      have q0:wc.drew.cell? ⟨M.gs,0,none⟩=some (.int .i64 (M.me:Int)):=h3.aO.cell 0
      have s0:Z.drew.cell? ⟨M.gs,0,none⟩=some (.int .i64 (M.me:Int)):=(h3.aN UZ).aO.cell 0
      have ULs:=UL.size
      go_upto_region 4 with fail
      go_cut [7]from 41 (fun s7 wd=>∃G:Nat,s7=.pointer (some ⟨G,0,none⟩)∧aQ wd G 30 #[.int .i64 b.r,.int .i64 b.s]∧aQ wd H 30 #[.int .i64 L.r,.int .i64 L.s]∧w.heap.size≤G∧ab [] [] w wd)
      case first=>
        go_region_with (first
          |(go_at_call 165;(with_reducible refine(CN wc.drew).mono ?_);rintro e W1 ⟨rfl,hu⟩)
          |(go_at_call 165;(try rw[hZ]);(with_reducible refine(CN Z.drew).mono ?_);rintro e W1 ⟨rfl,hu⟩;have K:=BZ.drew.aq hu (by simp);obtain⟨⟨k0,k1⟩,e0,e1⟩:=K.c2)
          |(rw[hZ]))
        all_goals (refine eH ?_)
        all_goals go_meet
        all_goals first
          |(
             have KK:=qW K (.int .i64 b.r) (.int .i64 b.s)
             have u6:=qX W1 wc.heap.size (.int .i64 b.r) (.int .i64 b.s)
             have KL:=(Je.drew.aq hu (by simp)).aq u6 (by simp only[mem_singleton];omega)
             exact⟨wc.heap.size,rfl,KK,KL,by omega,(UL.trans (((UZ.drew.trans hu).own (Nat.le_refl _) u6).gives (b':=[]) (by simp)))⟩)
          |(
             have KK:=aQ.new W1 30 #[.int .i64 b.r,.int .i64 b.s]
             have SU:wc.heap.size≤W1.heap.size:=hu.size
             exact⟨W1.heap.size,rfl,KK,(Oj.drew.aq hu (by simp)).alloc _,by omega,UL.trans (((ab.refl [] wc).drew.trans hu).alloc _)⟩)
      case rest=>
        obtain⟨G,rfl,nW,YF,XX,UG⟩:=hcut
        clear Oj CN UZ BZ Je p0 p1 r0 r1 q0 s0 hZ UL h3
        have h4:=h.aN UG
        have pS:=h.lt
        have iq:b.may 7=true:=by rw[←HBN.out];exact Bl.yA jP (by have:=h.ok.me;have h7:=h.ok.n7;have e1:M.pl.me=M.me:=rfl;have e2:M.pl.n=M.n:=rfl;omega)
        obtain⟨⟨g0,g1⟩,-⟩:=nW.c2
        obtain⟨⟨l0,l1⟩,-⟩:=YF.c2
        have CC:=mv wc b L
        simp only[Bl.val]at CC
        repeat' go_step
        refine CC.mono ?_;rintro e w5 ⟨rfl,cF⟩
        have U5:=UG.trans cF
        have h5:=h4.aN cF
        have K5:=nW.aq cF (by simp)
        clear CC g0 g1 l0 l1 h4 nW YF UG
        obtain⟨⟨g0,g1⟩,-⟩:=K5.c2
        by_cases hc:dr b L≤0
        · have dc:decide (dr b L≤0)=true:=dJ hc
          have eQ:R=M.pl:=by rw[Oi.out,if_pos hc]
          have bN:=aA (show dZ w w5 M R from⟨M,h5,eQ.symm,rfl,U5.up M.fp⟩)
          clear eQ h5 U5
          refine wk ?_
          exact bodyPost_ret (v:=.tuple #[]) (results_none rfl _ _ _) rfl ⟨rfl,bN.out⟩
        · have dc:decide (dr b L≤0)=false:=eE hc
          have C6:=xC w5 M h5 x hx b iq
          simp only[ae.ptr,Bl.val]at C6
          have Jf:G∉M.fp:=fun hk=>by have:=pS G hk;omega
          cases cM:M.pl.promise x b with
          |none=>
            rw[cM]at C6
            have ot:=aA (show R=M.pl by rw[Oi.out,if_neg hc,cM])
            repeat' first|go_guarded|go_step|simp only[];go_at_K
            refine C6.mono ?_;rintro e w6 ⟨rfl,M1,H6,gO,jG,-,U6⟩
            have bN:=aA (show dZ w w6 M R from⟨M1,H6,gO.trans ot.out.symm,jG,(U5.up M.fp).trans U6⟩)
            clear C6 H6 U6 U5 h5
            refine wk ?_
            exact bodyPost_ret (v:=.tuple #[]) (results_none rfl _ _ _) rfl ⟨rfl,bN.out⟩
          |some t=>
            rw[cM]at C6
            have YG:=Oi.out
            rw[if_neg hc,cM]at YG
            have HRT:=aA YG
            obtain⟨tm,tn,Na,trs,WL⟩:=Site.tZ cM
            clear YG cM hc
            repeat' first|go_guarded|go_step|simp only[];go_at_K
            refine C6.mono ?_;rintro e w6 ⟨rfl,M1,H6,gO,jG,xB,U6⟩
            replace gO:M1.pl=t:=gO
            have K6:=K5.aq U6 Jf
            have Sa:=U6.gu Jf K5.lt
            have n1:M1.n=M.n:=(congrArg Site.n gO).trans tn
            have U60:=(U5.up M.fp).trans U6
            have T6:dj w6 ⟨none,0,0,[]⟩:=⟨bE.nil _ _,by simp[ak]⟩
            clear C6 g0 g1 K5 U6 U5 h5
            obtain⟨⟨g0,g1⟩,-⟩:=K6.c2
            obtain⟨W8,G2,eW8,ni,hBR,U8⟩:=cb w6 132 #[.int .i64 b.r,.int .i64 b.s,.slice none 0 0,.bool false,.slice none 0 0,.slice none 0 0,.int .i64 0]
            have R8:mT W8 ⟨G2,b,none,0,[],false,⟨none,0,0,[]⟩,none,0,[],0⟩:=⟨hBR,Own.nil _ _ _,Own.nil _ _ _⟩
            have H8:=H6.aN U8
            obtain⟨w9,KF,FZ,u9⟩:=H8.eY.store underlying3 underlying119 (by rw[lk];have:=H8.JA;unfold maxLen;omega) (x:=x) eO (bS.ptr ⟨G2,b,none,0,[],false,⟨none,0,0,[]⟩,none,0,[],0⟩)
            rw[vQ,←fi]at FZ
            obtain⟨H9,V9⟩:=H6.X9 (x:=x) hx ⟨G2,b,none,0,[],false,⟨none,0,0,[]⟩,none,0,[],0⟩ (w1:=W8) (by simpa[bS.fp,ak]using U8) R8 u9 FZ (fun z hz=>by
              simp only[bS.bytes,map_nil,mem_singleton]at hz
              subst hz
              exact⟨T6,by simp[ak]⟩) ⟨by simp[bS.pl],iq,by simp[bS.pl]⟩
            have q8:W8.cell? ⟨M.gs,8,none⟩=some (.map (some M1.br)):=by rw[←jG];exact H8.aO.cell 8
            simp only[bS.ptr]at KF
            obtain⟨M3,iN⟩:∃M3:ae,{M1 with rs:=aT x ⟨G2,b,none,0,[],false,⟨none,0,0,[]⟩,none,0,[],0⟩ M1.rs} =M3:=⟨_,rfl⟩
            rw[iN]at H9 V9
            have fO:M3.pl= {t with rs:=aT x ⟨b,[],false,[],[],0⟩ t.rs}:=by
              rw[←iN,show({M1 with rs:=aT x ⟨G2,b,none,0,[],false,⟨none,0,0,[]⟩,none,0,[],0⟩ M1.rs} :ae).pl= {M1.pl with rs:=aT x (bS.pl ⟨G2,b,none,0,[],false,⟨none,0,0,[]⟩,none,0,[],0⟩) M1.pl.rs}from by unfold ae.pl;simp only[fi],gO]
              rfl
            have hg3:M3.gs=M.gs:=by rw[←iN];exact jG
            have cL:(x,(⟨G2,b,none,0,[],false,⟨none,0,0,[]⟩,none,0,[],0⟩:bS))∈M3.rs:=by rw[←iN];exact ec.2 (.inl rfl)
            have n3:M3.n=M.n:=by rw[←iN];exact n1
            have LU:M3.held.length≤900000000:=by have:=congrArg (fun z:Site=>z.held.length) fO;simp only[ae.cE,Na]at this;omega
            have K9:=K6.aq V9 Sa
            have FL:=V9.gu Sa K6.lt
            have U9:=U60.trans V9
            have qP:=te w9 _ (H9.cI _ cL) x
            rw[show gJ ⟨G2,b,none,0,[],false,⟨none,0,0,[]⟩,none,0,[],0⟩ x=⟨3,0,0,x,b.r,b.s,0,0,false,none,0,0,[]⟩from by simp[gJ]]at qP
            have eF:Mv.ms ⟨3,0,0,x,b.r,b.s,0,0,false,none,0,0,[]⟩=Site.asks ⟨b,[],false,[],[],0⟩ x:=by simp[Site.asks,Mv.ms]
            have zD:(Mv.ms ⟨3,0,0,x,b.r,b.s,0,0,false,none,0,0,[]⟩).Fit:=by rw[eF];exact Site.iX hx iq (by simp)
            have xR:=fun(Ae:World)(hu:ab [] [] w9 Ae)=>ke Ae M3 (H9.aN hu) ⟨3,0,0,x,b.r,b.s,0,0,false,none,0,0,[]⟩ zD (bE.nil _ _) (by simp[ak]) LU
            simp only[eF,fO,n3]at xR
            simp only[ae.ptr,hg3,bS.ptr,Mv.bJ]at qP xR
            clear iN R8 hBR H8 FZ u9 T6 cL H6 K6 U60 V9 zD eF
            repeat' first|go_guarded|go_step|simp only[];go_at_K
            refine qP.mono ?_;rintro e Ae ⟨rfl,wq⟩
            repeat' first|go_step|simp only[];go_at_K
            refine(xR Ae wq).mono ?_;rintro e F0 ⟨rfl,M4,ny,xS,Yk,-,I9⟩
            have SX:=(K9.aq wq (by simp)).aq I9 FL
            have g4:M4.gs=M.gs:=Yk.trans hg3
            have st4:M4.pl.stat x= {M.pl.stat x with p:=b}:=by rw[xS,Site.bH];exact WL
            have SY:M4.me=M.me:=by
              have:=congrArg Site.me xS
              rw[(Site.ib _ _).1]at this
              exact this.trans tm
            have Yl:M4.held.length≤1000000000:=by
              have h1:M4.held.length=M.held.length+(({t with rs:=aT x ⟨b,[],false,[],[],0⟩ t.rs} :Site).tell (Site.asks ⟨b,[],false,[],[],0⟩ x) M.n).length:=by
                rw[←ae.cE,xS,Site.bH]
                show(t.held++_).length=_
                rw[length_append,Na,ae.cE]
              have h7:=h.ok.n7
              have e2:M.pl.n=M.n:=rfl
              have:=Site.kd ({t with rs:=aT x ⟨b,[],false,[],[],0⟩ t.rs} :Site) (Site.asks ⟨b,[],false,[],[],0⟩ x) M.n
              omega
            have zz:(M4.ub x b).ms.Fit:=by rw[ae.wN];exact Site.lQ ny.ok hx iq (by rw[st4];exact mB)
            have rC:=zA F0.drew M4 ny.drew x eO b
            have EM:=fun(xD:World)(hu:ab [] [] F0.drew xD)=>jC xD M4 (ny.drew.aN hu) (M.me:Int) (M4.ub x b) zz (by have:=h.ok.me;have h7:=h.ok.n7;have e1:M.pl.me=M.me:=rfl;have e2:M.pl.n=M.n:=rfl;omega) (((ny.drew.aN hu).sK x).1.rd) Yl
            have z0:F0.drew.cell? ⟨M.gs,0,none⟩=some (.int .i64 (M.me:Int)):=by rw[←g4,←SY];exact ny.aO.cell 0
            have WM:=((U9.trans (wq.up M3.fp)).trans I9).drew
            rw[ae.wN]at EM
            obtain⟨av,og⟩:∃z,(M4.ub x b).val=z:=⟨_,rfl⟩
            rw[og]at rC
            simp only[og,ae.ptr,g4]at EM
            simp only[ae.ptr,g4,Bl.val]at rC
            obtain⟨⟨i0,i1⟩,-⟩:=SX.drew.c2
            have Xd:M4.pl.me=M.me:=SY
            have JI:=xS
            have HRF:=aA (show R=M4.pl.send M.me (M4.pl.answer x b) by
              rw[HRT.out]
              show Site.send (Site.others _ _ _) _ _=_
              rw[←xS,Xd])
            clear og zz JI qP xR ny K9 SX H9 I9 wq U9 st4 xS fO h jP
            refine wk ?_
            go_region_with (first
              |(go_at_call 167;(with_reducible refine rC.mono ?_);rintro e xD ⟨rfl,uM⟩;have z1:=uM.cell z0 (by simp);have i2:=uM.cell i0 (by simp);have i3:=uM.cell i1 (by simp))
              |(go_at_call 64;(with_reducible refine(EM xD uM).mono ?_);rintro e w13 ⟨rfl,M5,WN,PZ,P0,-,WO⟩))
            all_goals (refine eH ?_)
            all_goals exact bodyPost_end (results_none rfl _ _ _) rfl ⟨rfl,M5,WN,PZ.trans HRF.out.symm,P0.trans g4,(WM.trans (uM.up M4.fp)).trans WO⟩
