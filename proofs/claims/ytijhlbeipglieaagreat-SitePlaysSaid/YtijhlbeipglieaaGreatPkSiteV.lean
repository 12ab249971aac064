/- For SitePlays. -/
import Derived.Test.YtijhlbeipglieaaGreatPkSiteP
import Derived.Test.YtijhlbeipglieaaGreatPkSu
set_option linter.all false
set_option maxRecDepth 100000
set_option maxHeartbeats 4000000
namespace aA
open Go List
namespace Site
theorem zk{x:Int}{b:Bl}(hx:0≤x∧x<4096)(hb:b.may 7=true):(fV x b).Fit:=by
  have:=Bl.jb.1 hb
  exact⟨by simp[fV],by simp,by simp,by simp[fV];omega,by simpa[fV]using this.1,by simpa[fV]using this.2,by simp[fV],by simp[fV],by simp[fV],by simp[fV]⟩
theorem sM(f c:Nat)(s:Site)(to:Int)(h:8≤c∨aZ s.me s.nx s.n<0∨to≤aZ s.me s.nx s.n):eG (f+1) c s to=s:=by
  unfold eG
  split
  · rfl
  · rw[if_pos (by omega)]
theorem Dm(f c:Nat)(s:Site)(to:Int)(hc:¬ 8≤c)(hx:¬ (aZ s.me s.nx s.n<0∨to≤aZ s.me s.nx s.n))(hf:s.fresh (aZ s.me s.nx s.n)=true)(ha:s.accept (aZ s.me s.nx s.n) s.ownB []=none):eG (f+1) c s to=s:=by
  unfold eG
  rw[if_neg hc,if_neg hx,if_pos hf,ha]
theorem Dp(f c:Nat)(s t:Site)(to:Int)(hc:¬ 8≤c)(hx:¬ (aZ s.me s.nx s.n<0∨to≤aZ s.me s.nx s.n))(hf:s.fresh (aZ s.me s.nx s.n)=true)(ha:s.accept (aZ s.me s.nx s.n) s.ownB []=some t) :
    eG (f+1) c s to=eG f (c+1) (t.jv s.ownB (aZ s.me s.nx s.n)) to:=by
  conv=>lhs;unfold eG
  rw[if_neg hc,if_neg hx,if_pos hf,ha]
theorem Dk(f c:Nat)(s:Site)(to:Int)(hc:¬ 8≤c)(hx:¬ (aZ s.me s.nx s.n<0∨to≤aZ s.me s.nx s.n))(hf:s.fresh (aZ s.me s.nx s.n)=false) :
    eG (f+1) c s to=eG f c {s with nx:=(aZ s.me s.nx s.n+1).toNat} to:=by
  conv=>lhs;unfold eG
  rw[if_neg hc,if_neg hx,if_neg (by rw[hf];simp)]
end Site
end aA
namespace Go.Proofs.YtijhlbeipglieaaGreat
open Go.RowKit aA Go.Maps Tryz List
def qJ(w:World)(g:Nat):Nat:=match w.cell? ⟨g,9,none⟩ with|some (.int _ x)=>(4098 - x).toNat|_=>0
section
variable [eU]
theorem ay.qJ{w:World}{M:af}(h:ay w M):Proofs.YtijhlbeipglieaaGreat.qJ w M.gs=4098-M.nx:=by
  have:w.cell? ⟨M.gs,9,none⟩=some (.int .i64 (M.nx:Int)):=h.blk.cell 9
  unfold Proofs.YtijhlbeipglieaaGreat.qJ
  rw[this]
  show(4098-(M.nx:Int)).toNat=_
  omega
theorem xq(w:World)(M:af)(h:ay w M)(to:Int)(hl:M.held.length≤700000000) :
    Calls prog 96 #[M.ptr,.int .i64 to] w fun e w'=>e=.returned (.tuple #[])∧Goes w w' M (M.pl.skip to):=by
  obtain⟨R,hR⟩:=ex1 (M.pl.skip to)
  have HR:=hdn (show Site.eG 4098 0 M.pl to=R from hR)
  rw[hR]
  clear hR
  rw[af.ptr]
  have hmn:M.me<M.n:=h.ok.me
  have FP:M.n≤7:=h.ok.n7
  go_enter func96,ntmps96
  refine wk ?_
  go_loopw [4] (fun v4 wr=>∃(c f:Nat)(M':af),v4=.int .i64 (c:Int)∧c≤8∧ay wr M'∧Site.eG f c M'.pl to=R∧4098≤f+M'.nx∧M'.gs=M.gs∧M'.rs=M.rs∧M'.me=M.me∧M'.n=M.n∧M'.held.length≤M.held.length+10*c∧aa M.fp M'.fp w wr) (fun _ wr=>qJ wr M.gs)
  case atStart=>exact⟨0,4098,M,rfl,by omega,h,HR.out,by omega,rfl,rfl,rfl,rfl,by omega,aa.refl _ _⟩
  case round=>
    obtain⟨c,f,M',rfl,hc8,h',hsk,hfn,hg,hrs,hme,hn,Fh,U⟩:=hrel
    have hnx:M'.nx≤4096:=h'.ok.nx
    have HX0:=h'.qJ
    rw[hg]at HX0
    obtain⟨f',rfl⟩:∃f',f=f'+1:=⟨f - 1,by omega⟩
    have rT:=hdn hsk
    clear hsk HR
    by_cases hc:c<8
    · have hci:(c:Int)<8:=by omega
      have hcw:=aA.wr ((c:Int)+1)
      have r0:wr.drew.cell? ⟨M.gs,0,none⟩=some (.int .i64 (M.me:Int)):=by rw[←hg,←hme];exact h'.blk.cell 0
      have r1:wr.drew.cell? ⟨M.gs,1,none⟩=some (.int .i64 (M.n:Int)):=by rw[←hg,←hn];exact h'.blk.cell 1
      have r9:wr.drew.cell? ⟨M.gs,9,none⟩=some (.int .i64 (M'.nx:Int)):=by rw[←hg];exact h'.blk.cell 9
      have C1:=zB wr.drew M.me M'.nx M.n (by omega)
      obtain⟨x,hx⟩:=ex1 (aZ M.me M'.nx M.n)
      have jw:=gz M.me M'.nx M.n
      rw[hx]at C1 jw
      have hx':aZ M'.pl.me M'.pl.nx M'.pl.n=x:=by
        show aZ (M'.me:Int) M'.nx (M'.n:Int)=x
        rw[hme,hn];exact hx
      have HX:=hdn hx'
      clear hx hx'
      repeat' go_step
      go_still_tail 13,(by kernel_rfl)
      change wpList _ _ _ _ _ wr.drew
      repeat' go_step
      refine C1.mono ?_;rintro e w1 ⟨rfl,rfl⟩
      clear C1
      have U1:aa M.fp M'.fp w wr.drew:=U.drew
      have h1:=h'.drew
      clear U h' r0 r1 r9
      by_cases af0:x<0∨to≤x
      · have dN:R=M'.pl:=by rw[←rT.out,Site.sM _ _ _ _ (.inr (by rw[HX.out];exact af0))]
        have KEY:=hdn (show Goes w wr.drew M R from⟨M',h1,dN.symm,hg,hrs,U1⟩)
        clear dN h1 U1
        by_cases hx0:x<0
        · have d0:decide (x<0)=true:=dTx hx0
          refine wk ?_
          exact enT ⟨rfl,KEY.out⟩
        · have d0:decide (x<0)=false:=dFx hx0
          have d1:decide (to≤x)=true:=dTo
          refine wk ?_
          exact enT ⟨rfl,KEY.out⟩
      · have d0:decide (x<0)=false:=dFo
        have d1:decide (to≤x)=false:=dFo
        have hxb:(M'.nx:Int)≤x∧x<4096:=by rcases jw with h9|h9<;>omega
        have hw7:=aA.wr (x+1)
        have hyn:(((x+1).toNat:Nat):Int)=x+1:=by omega
        have C2:=yO wr.drew M' h1 x (jV (by omega) (by omega))
        have Jq:=hdn (show ¬ (aZ M'.pl.me M'.pl.nx M'.pl.n<0∨to≤aZ M'.pl.me M'.pl.nx M'.pl.n) by rw[HX.out];exact af0)
        obtain⟨F,hF⟩:=ex1 (M'.pl.fresh x)
        have HF:=hdn (show M'.pl.fresh (aZ M'.pl.me M'.pl.nx M'.pl.n)=F by rw[HX.out];exact hF)
        rw[hF,af.ptr,hg]at C2
        clear hF jw af0
        have AA:(⟨0,M.me⟩:Bl).may 7=true:=by
          have:=h1.ok.own
          rw[show M'.pl.ownB=(⟨0,M.me⟩:Bl) by unfold Site.ownB;show(⟨0,(M'.me:Int)⟩:Bl)=_;rw[hme]]at this
          exact this
        cases F with
        |false=>
          repeat' first|go_guarded|go_step|simp only[];go_at_K
          refine C2.mono ?_;rintro e w3 ⟨rfl,hu3⟩
          have h3:=h1.au hu3
          have t9:w3.cell? ⟨M.gs,9,none⟩=some (.int .i64 (M'.nx:Int)):=by rw[←hg];exact h3.blk.cell 9
          have f9:w3.frozen? ⟨M.gs,9,none⟩=false:=by rw[←hg];exact h3.blk.frozen 9
          have u7:aa [M'.gs] [M'.gs] w3 (w3.setCell ⟨M'.gs,9,none⟩ (.int .i64 (x+1))):=(aa.refl [M'.gs] w3).setCell (p:=⟨M'.gs,9,none⟩) (.inl (by simp)) _
          have pF:=h3.blk.aO 9 (.int .i64 (x+1))
          have h7:=h3.BM M'.down M'.top (x+1).toNat u7 (by simpa[af.cells,hyn]using pF) (h3.ok.kQ (k:=(x+1).toNat) (by omega))
          obtain⟨M7,DY⟩:∃M7:af,{M' with down:=M'.down,top:=M'.top,nx:=(x+1).toNat} =M7:=⟨_,rfl⟩
          rw[DY]at h7
          have rO:M7.pl= {M'.pl with nx:=(x+1).toNat}:=by rw[←DY];rfl
          have hs7:M7.nx=(x+1).toNat∧M7.gs=M'.gs∧M7.rs=M'.rs∧M7.me=M'.me∧M7.n=M'.n∧M7.held=M'.held∧M7.fp=M'.fp:=by rw[←DY];exact⟨rfl,rfl,rfl,rfl,rfl,rfl,rfl⟩
          clear DY
          have U7:=(U1.trans (hu3.up _)).trans (u7.mono (a':=M'.fp) (b':=M'.fp) (fun k hk=>by simp only[mem_singleton]at hk;subst hk;simp[af.fp]) (fun k hk=>.inr (.inl hk)))
          have Kl:=h7.qJ
          have hS:=Site.Dk f' c M'.pl to (by omega) Jq.out HF.out
          rw[rT.out,HX.out,←rO]at hS
          obtain⟨s1,s2,s3,s4,s5,s6,s7⟩:=hs7
          rw[←s7]at U7
          rw[s2,s1]at Kl
          have KEY:=hdn (show ∃(c' f:Nat)(M2:af),Value.int .i64 (c:Int)=.int .i64 (c':Int)∧c'≤8∧ay (w3.setCell ⟨M.gs,9,none⟩ (.int .i64 (x+1))) M2∧Site.eG f c' M2.pl to=R∧4098≤f+M2.nx∧M2.gs=M.gs∧M2.rs=M.rs∧M2.me=M.me∧M2.n=M.n∧M2.held.length≤M.held.length+10*c'∧aa M.fp M2.fp w (w3.setCell ⟨M.gs,9,none⟩ (.int .i64 (x+1))) from
            ⟨c,f',M7,rfl,hc8,by rw[←hg];exact h7,hS.symm,by omega,s2.trans hg,s3.trans hrs,s4.trans hme,s5.trans hn,by rw[s6];exact Fh,by rw[←hg,s7];rw[s7]at U7;exact U7⟩)
          have KM:=hdn (show qJ (w3.setCell ⟨M.gs,9,none⟩ (.int .i64 (x+1))) M.gs<qJ wr M.gs by
            have e1:qJ (w3.setCell ⟨M.gs,9,none⟩ (.int .i64 (x+1))) M.gs=4098-(x+1).toNat:=by rw[←hg];exact Kl
            rw[e1,HX0];omega)
          clear C2 h1 h3 u7 pF h7 U7 Kl hS hu3 U1 s1 s2 s3 s4 s5 s6 s7
          refine wk ?_
          exact⟨KEY.out,KM.out⟩
        |true=>
          have atM:M.gs∈M'.fp:=by rw[←hg];simp[af.fp]
          repeat' first|go_guarded|go_step|simp only[];go_at_K
          refine C2.mono ?_;rintro e w3 ⟨rfl,hu3⟩
          have h3:=h1.au hu3
          have r0:w3.cell? ⟨M.gs,0,none⟩=some (.int .i64 (M.me:Int)):=by rw[←hg,←hme];exact h3.blk.cell 0
          obtain⟨Wb,Hb,ZZ,Z0,hBb,Ub⟩:=az w3 30 #[.int .i64 0,.int .i64 (M.me:Int)]
          have h4:=h3.au Ub
          have U4:=(U1.trans (hu3.up _)).trans (Ub.g0.up M'.fp)
          have ik:Hb∉M'.fp:=fun hk=>by have:=h3.lt Hb hk;omega
          have C6:=pg Wb M' h4 x (by omega) ⟨0,M.me⟩ AA none 0 0 [] (aD.nil _ _) (by simp[ah]) (by simp)
          have acI:M'.pl.ownB=(⟨0,M.me⟩:Bl):=by unfold Site.ownB;show(⟨0,(M'.me:Int)⟩:Bl)=_;rw[hme]
          simp only[af.ptr,Bl.val,hg]at C6
          obtain⟨⟨b0,b1⟩,-⟩:=hBb.c2
          clear C2 h3 hu3 U1 Ub
          cases abU:M'.pl.accept x ⟨0,M.me⟩ [] with
          |none=>
            rw[abU]at C6
            have dN:R=M'.pl:=by rw[←rT.out,Site.Dm _ _ _ _ (by omega) Jq.out HF.out (by rw[HX.out,acI];exact abU)]
            have nP:=hdn dN
            clear dN
            repeat' first|go_step|simp only[];go_at_K
            refine C6.mono ?_;rintro e w6 ⟨rfl,M1,H6,iY,jy,Ai,U6⟩
            have KEY:=hdn (show Goes w w6 M R from⟨M1,H6,iY.trans nP.out.symm,jy.trans hg,Ai.trans hrs,U4.trans U6⟩)
            clear C6 H6 U6 U4
            refine wk ?_
            exact enT ⟨rfl,KEY.out⟩
          |some t=>
            rw[abU]at C6
            have hS:=Site.Dp f' c M'.pl t to (by omega) Jq.out HF.out (by rw[HX.out,acI];exact abU)
            rw[rT.out,HX.out,acI]at hS
            have HS:=hdn hS
            obtain⟨tm,tn,th,-,-,-,-⟩:=Site.gD abU
            clear hS abU
            repeat' first|go_step|simp only[];go_at_K
            refine C6.mono ?_;rintro e w6 ⟨rfl,M1,H6,iY,jy,Ai,U6⟩
            replace iY:M1.pl=t:=iY
            have g1:M1.gs=M.gs:=jy.trans hg
            have me1:M1.me=M.me:=(congrArg Site.me iY).trans (tm.trans hme)
            have n1:M1.n=M.n:=(congrArg Site.n iY).trans (tn.trans hn)
            have l1:M1.held.length=M'.held.length:=by have:=congrArg (fun z:Site=>z.held.length) iY;simp only[af.bf,th]at this;exact this
            have K6:=hBb.upd U6 ik
            have VD:=U6.eQ ik hBb.lt
            clear b0 b1
            obtain⟨⟨b0,b1⟩,-⟩:=K6.c2
            clear C6
            repeat' first|go_step|simp only[];go_at_K
            obtain⟨W7,G,wL,hG,hBG,U7⟩:=az w6 32 #[.int .i64 2,.int .i64 0,.int .i64 0,.int .i64 x,.int .i64 0,.int .i64 (M.me:Int),.int .i64 0,.int .i64 0,.bool false,.slice none 0 0]
            rw[wL,hG]
            have h7:=H6.au U7
            have rH:G∉M1.fp:=fun hk=>by have:=H6.lt G hk;omega
            have adn:(Mv.ms ⟨2,0,0,x,0,M.me,0,0,false,none,0,0,[]⟩).Fit:=Site.zk (x:=x) (b:=⟨0,M.me⟩) (by omega) AA
            have C8:=kL W7 M1 h7 ⟨2,0,0,x,0,M.me,0,0,false,none,0,0,[]⟩ adn (aD.nil _ _) (by simp[ah]) (by omega)
            have hms:Mv.ms ⟨2,0,0,x,0,M.me,0,0,false,none,0,0,[]⟩=Site.fV x ⟨0,M.me⟩:=rfl
            rw[hms,iY,n1]at C8
            simp only[af.ptr,Mv.aH,g1]at C8
            obtain⟨⟨m0,m1,m2,m3,m4,m5,m6,m7,m8,m9⟩,-⟩:=hBG.c10
            have Df:=(U4.trans U6).trans (U7.g0.up M1.fp)
            clear H6 U6 U4 K6 hBb U7
            refine C8.mono ?_;rintro e w8 ⟨rfl,M2,h8,yF,Il,yG,U8⟩
            have K8:=hBG.upd U8 rH
            clear m0 m1 m2 m3 m4 m5 m6 m7 m8 m9 C8
            have me2:M2.me=M.me:=by
              have:=congrArg Site.me yF
              rw[(Site.fJ _ _).1]at this
              exact this.trans (tm.trans hme)
            have n2:M2.n=M.n:=by
              have:=congrArg Site.n yF
              rw[(Site.fJ _ _).2]at this
              exact this.trans (tn.trans hn)
            have l2:M2.held.length≤M'.held.length+7:=by
              have e1:=congrArg (fun z:Site=>z.held.length) yF
              simp only[af.bf,Site.bH,length_append,th]at e1
              have e2:=Site.gQ t (Site.fV x ⟨0,M.me⟩) M.n
              omega
            have s0:w8.drew.cell? ⟨M.gs,0,none⟩=some (.int .i64 (M.me:Int)):=by rw[←g1,←Il,←me2];exact h8.blk.cell 0
            obtain⟨⟨m0,m1,m2,m3,m4,m5,m6,m7,m8,m9⟩,-⟩:=K8.drew.c10
            have C9:=jL w8.drew M2 h8.drew (M.me:Int) ⟨2,0,0,x,0,M.me,0,0,false,none,0,0,[]⟩ adn (by omega) (aD.nil _ _) (by omega)
            rw[hms,yF]at C9
            simp only[af.ptr,Mv.aH,Il,g1]at C9
            repeat' first|go_step|simp only[];go_at_K
            go_still_tail 6,(by kernel_rfl)
            change wpList _ _ _ _ _ w8.drew
            repeat' go_step
            refine C9.mono ?_;rintro e w9 ⟨rfl,M3,h9,yH,Im,QV,U9⟩
            clear m0 m1 m2 m3 m4 m5 m6 m7 m8 m9 C9 K8 s0
            have g3:M3.gs=M.gs:=Im.trans (Il.trans g1)
            have me3:M3.me=M.me:=by have:=congrArg Site.me yH;exact this.trans ((Site.fJ _ _).1.trans (tm.trans hme))
            have n3:M3.n=M.n:=by have:=congrArg Site.n yH;exact this.trans ((Site.fJ _ _).2.trans (tn.trans hn))
            have l3:M3.held.length≤M'.held.length+8:=by
              have e1:=congrArg (fun z:Site=>z.held.length) yH
              rw[←yF]at e1
              simp only[af.bf,Site.send,length_append,length_cons,length_nil]at e1
              omega
            have u7:aa [M3.gs] [M3.gs] w9 (w9.setCell ⟨M3.gs,9,none⟩ (.int .i64 (x+1))):=(aa.refl [M3.gs] w9).setCell (p:=⟨M3.gs,9,none⟩) (.inl (by simp)) _
            have pF:=h9.blk.aO 9 (.int .i64 (x+1))
            have t9:w9.cell? ⟨M.gs,9,none⟩=some (.int .i64 (M3.nx:Int)):=by rw[←g3];exact h9.blk.cell 9
            have f9:w9.frozen? ⟨M.gs,9,none⟩=false:=by rw[←g3];exact h9.blk.frozen 9
            have h10:=h9.BM M3.down M3.top (x+1).toNat u7 (by simpa[af.cells,hyn]using pF) (h9.ok.kQ (k:=(x+1).toNat) (by omega))
            obtain⟨M4,DW⟩:∃M4:af,{M3 with down:=M3.down,top:=M3.top,nx:=(x+1).toNat} =M4:=⟨_,rfl⟩
            rw[DW]at h10
            have abr:M4.pl=t.jv ⟨0,M.me⟩ x:=by
              have e1:M4.pl= {M3.pl with nx:=(x+1).toNat}:=by rw[←DW];rfl
              rw[e1,yH]
              unfold Site.jv
              rw[tm,tn,show M'.pl.me=M.me from hme,show M'.pl.n=M.n from hn]
            obtain⟨q1,q2,q3,q4,q5,q6,q7⟩:M4.nx=(x+1).toNat∧M4.gs=M3.gs∧M4.rs=M3.rs∧M4.me=M3.me∧M4.n=M3.n∧M4.held=M3.held∧M4.fp=M3.fp:=by rw[←DW];exact⟨rfl,rfl,rfl,rfl,rfl,rfl,rfl⟩
            have Mf:aa M.fp M4.fp w (w9.setCell ⟨M3.gs,9,none⟩ (.int .i64 (x+1))):=by
              rw[q7]
              exact(((Df.trans U8).drew).trans U9).trans (u7.mono (a':=M3.fp) (b':=M3.fp) (fun k hk=>by simp only[mem_singleton]at hk;subst hk;simp[af.fp]) (fun k hk=>.inr (.inl hk)))
            have Kl:=h10.qJ
            rw[q2,q1]at Kl
            have KEY:=hdn (show ∃(c' f:Nat)(M2:af),Value.int .i64 ((c:Int)+1)=.int .i64 (c':Int)∧c'≤8∧ay (w9.setCell ⟨M.gs,9,none⟩ (.int .i64 (x+1))) M2∧Site.eG f c' M2.pl to=R∧4098≤f+M2.nx∧M2.gs=M.gs∧M2.rs=M.rs∧M2.me=M.me∧M2.n=M.n∧M2.held.length≤M.held.length+10*c'∧aa M.fp M2.fp w (w9.setCell ⟨M.gs,9,none⟩ (.int .i64 (x+1))) from
              ⟨c+1,f',M4,by simp,by omega,by rw[←g3];exact h10,by rw[abr];exact HS.out.symm,by omega,q2.trans g3,q3.trans (QV.trans (yG.trans (Ai.trans hrs))),q4.trans me3,q5.trans n3,by rw[q6];omega,by rw[←g3];exact Mf⟩)
            have KM:=hdn (show qJ (w9.setCell ⟨M.gs,9,none⟩ (.int .i64 (x+1))) M.gs<qJ wr M.gs by
              have e1:qJ (w9.setCell ⟨M.gs,9,none⟩ (.int .i64 (x+1))) M.gs=4098-(x+1).toNat:=by rw[←g3];exact Kl
              rw[e1,HX0];omega)
            clear h9 u7 pF h10 Mf Kl U9 h8 U8 Df abr DW q1 q2 q3 q4 q5 q6 q7
            refine wk ?_
            exact⟨KEY.out,KM.out⟩
    · have dN:R=M'.pl:=by rw[←rT.out,Site.sM _ _ _ _ (.inl (by omega))]
      have hci:¬ (c:Int)<8:=by omega
      have KEY:=hdn (show Goes w wr M R from⟨M',h',dN.symm,hg,hrs,U⟩)
      clear dN h' U
      refine wk ?_
      exact enR ⟨rfl,KEY.out⟩
theorem Aj(w:World)(M:af)(h:ay w M)(x:Int)(hx:0≤x∧x<4096)(b:Bl)(hb:b.may 7=true) :
    Calls prog 166 #[M.ptr,.int .i64 x,b.val] w fun e w'=>e=.returned (.bool (M.pl.promise x b).isSome)∧Goes w w' M ((M.pl.promise x b).getD M.pl):=by
  have hwf:(Lit.int .i64 x).wf=true:=jV (by omega) (by omega)
  obtain⟨W,H,eW,hH,hB,U0⟩:=az w 30 #[.int .i64 b.r,.int .i64 b.s]
  have h1:=h.au U0
  have hl:=h1.look hwf
  obtain⟨hb1,hb2,hb3⟩:=h1.tJ x
  have O5:=h.ok.stat x
  rw[←af.nU]at O5
  have HN:=hdn (show M.pl.promise x b=if b.r<1∨bg b (M.bZ x).p<0 then none else M.pl.note {(M.bZ x).pl with p:=b} ⟨1,x,b.r,b.s,[]⟩ by
    unfold Site.promise;rw[←af.nU];rfl)
  obtain⟨R,hR⟩:=ex1 (M.pl.promise x b)
  rw[hR]at HN ⊢
  clear hR
  have C:∀(Wx:World)(hU:aa [] [] W Wx),Calls prog 231 #[(M.bZ x).val,b.val] Wx fun e w'=>∃z:aN,e=.returned (.tuple #[.agg #[.int .i64 z.p.r,.int .i64 z.p.s,.bool z.so,.int .i64 z.at_.r,.int .i64 z.at_.s,.slice z.A z.n z.c],.bool (gP (M.bZ x) b).isSome])∧
      ((gP (M.bZ x) b).isSome=true→z.pl= {(M.bZ x).pl with p:=b}∧aT 5 w' z.A z.n z.c z.b)∧aa [] (ah z.A) Wx w':=fun Wx hU=>by
    refine(ND Wx (M.bZ x) b (aD.upd hb1.rd hU (by simp)) (by have:=hb3;omega)).mono ?_
    rintro e w' ⟨A,n,c,ho,hu,rfl⟩
    refine⟨{M.bZ x with p:=(gP (M.bZ x) b).getD (M.bZ x).p,A:=A,n:=n,c:=c},rfl,fun hh=>⟨?_,ho⟩,hu⟩
    have hp:gP (M.bZ x) b=some b:=by
      unfold gP at hh ⊢
      split
      · rename_i hc;rw[if_pos hc]at hh;cases hh
      · rfl
    simp only[aN.pl,hp,Option.getD_some]
  obtain⟨Z,hZ⟩:∃Z:World,W.alloc (.cells #[.int .i64 0,.int .i64 0,.bool false,.int .i64 0,.int .i64 0,.slice none 0 0] 37)=Z:=⟨_,rfl⟩
  have UZ:aa [] [] W Z:=by rw[←hZ];exact(aa.refl [] W).alloc _
  have BZ:ak Z W.heap.size 37 #[.int .i64 0,.int .i64 0,.bool false,.int .i64 0,.int .i64 0,.slice none 0 0]:=by rw[←hZ];exact ak.new _ _ _
  have hl1:(Instr.lookup 117 (.map (some M.bs)) (.int .i64 x) false).run prog W.drew=.ok (M.bZ x).val W.drew:=h1.drew.look hwf
  have hl2:(Instr.lookup 117 (.map (some M.bs)) (.int .i64 x) false).run prog Z.drew=.ok (M.bZ x).val Z.drew:=(h1.au UZ).drew.look hwf
  obtain⟨⟨p0,p1⟩,-⟩:=hB.c2
  obtain⟨⟨r0,r1⟩,-⟩:=(hB.upd UZ).c2
  have q5:W.cell? ⟨M.gs,5,none⟩=some (.map (some M.bs)):=h1.blk.cell 5
  have s5:Z.cell? ⟨M.gs,5,none⟩=some (.map (some M.bs)):=(h1.au UZ).blk.cell 5
  have uO:=hB.lt
  have zz:=hdn (show(gP (M.bZ x) b).isSome=!decide (b.r<1∨bg b (M.bZ x).p<0) by unfold gP;split<;>simp_all)
  clear hl hb1 hb2
  generalize M.bZ x=y at *
  obtain⟨yv,hyv⟩:∃z,y.val=z:=⟨_,rfl⟩
  obtain⟨ac,hac⟩:∃z,(gP y b).isSome=z:=⟨_,rfl⟩
  simp only[hyv,hac]at C hl1 hl2
  rw[hac]at zz
  rw[Bl.val,af.ptr]
  simp only[Bl.val]at C
  clear hac
  go_enter func166,ntmps166
  repeat' go_step
  go_cut [7,8]from 9 (fun s7 s8 wc=>∃(g:Nat)(z:aN),s7=.pointer (some ⟨g,0,none⟩)∧s8=.bool ac∧ak wc g 37 #[.int .i64 z.p.r,.int .i64 z.p.s,.bool z.so,.int .i64 z.at_.r,.int .i64 z.at_.s,.slice z.A z.n z.c]∧
    (ac=true→z.pl= {y.pl with p:=b}∧aT 5 wc z.A z.n z.c z.b)∧W.heap.size≤g∧(∀k∈ah z.A,W.heap.size≤k)∧aa [] [] W wc)
  case first=>
    go_region_with (first
      |(go_at_call 231;(with_reducible refine(C W.drew (aa.refl [] W).drew).mono ?_);rintro e W1 ⟨z,rfl,hz,hu⟩)
      |(go_at_call 231;(try rw[hZ]);(with_reducible refine(C Z.drew UZ.drew).mono ?_);rintro e W1 ⟨z,rfl,hz,hu⟩;have K:=BZ.drew.upd hu;obtain⟨⟨k0,k1,k2,k3,k4,k5⟩,e0,e1,e2,e3,e4,e5⟩:=K.c6)
      |(rw[hZ]))
    all_goals (refine wk ?_)
    all_goals go_meet
    all_goals first
      |(
         have KK:=mq K (.int .i64 z.p.r) (.int .i64 z.p.s) (.bool z.so) (.int .i64 z.at_.r) (.int .i64 z.at_.s) (.slice z.A z.n z.c)
         have u6:=mr W1 W.heap.size (.int .i64 z.p.r) (.int .i64 z.p.s) (.bool z.so) (.int .i64 z.at_.r) (.int .i64 z.at_.s) (.slice z.A z.n z.c)
         have jH:=UZ.drew.new hu
         have dK:=(aa.refl [] Z).drew.new hu
         have U6:=((UZ.drew.trans hu).own (Nat.le_refl _) u6).gives (b':=[]) (by simp)
         have E6:ac=true→z.pl= {y.pl with p:=b}∧aT 5 (vK W1 W.heap.size (.int .i64 z.p.r) (.int .i64 z.p.s) (.bool z.so) (.int .i64 z.at_.r) (.int .i64 z.at_.s) (.slice z.A z.n z.c)) z.A z.n z.c z.b:=fun ha=>⟨(hz ha).1,(hz ha).2.upd u6 (fun k hk=>by
           have h8:=BZ.lt
           have h9:Z.heap.size≤k:=dK k hk
           simp only[mem_singleton];omega)⟩
         exact⟨W.heap.size,z,rfl,rfl,KK,E6,Nat.le_refl _,jH,U6⟩)
      |(
         have KK:=ak.new W1 37 #[.int .i64 z.p.r,.int .i64 z.p.s,.bool z.so,.int .i64 z.at_.r,.int .i64 z.at_.s,.slice z.A z.n z.c]
         have U6:=((((aa.refl [] W).drew.trans hu).alloc (.cells #[.int .i64 z.p.r,.int .i64 z.p.s,.bool z.so,.int .i64 z.at_.r,.int .i64 z.at_.s,.slice z.A z.n z.c] 37)).gives (b':=[]) (by simp))
         have jH:=(aa.refl [] W).drew.new hu
         have hs6:W.heap.size≤W1.heap.size:=hu.size
         exact⟨W1.heap.size,z,rfl,rfl,KK,fun ha=>⟨(hz ha).1,(hz ha).2.alloc _⟩,hs6,jH,U6⟩)
  case rest=>
    obtain⟨g,z,rfl,rfl,uB,hz,hgs,hAs,U1⟩:=hcut
    have hs:=h1.au U1
    have hBb:=hB.upd U1
    have U2:=U0.trans (U1.up _)
    have DT:=hdn U2
    have hf:=h.lt
    have eu:=h.qW
    clear C UZ BZ hl1 hl2 h1 hB U1 p0 p1 r0 r1 q5 s5 U2
    cases ac with
    |false=>
      refine wk ?_
      have HR:=HN.out
      rw[if_pos (Classical.byContradiction fun hc=>by have h9:=zz.out;rw[dFx hc]at h9;cases h9)]at HR
      subst HR
      go_ret
      exact⟨rfl,M,hs,rfl,rfl,rfl,DT.out.mono (by simp) (fun k hk=>.inr (.inl hk))⟩
    |true=>
      obtain⟨ez,J6⟩:=hz rfl
      have hbb:=Bl.jb.1 hb
      have ezb:z.b=y.b:=congrArg Sp.b ez
      have ezp:z.p=b:=congrArg Sp.p ez
      have eza:z.at_=y.at_:=congrArg Sp.at_ ez
      have C3:=J5 wc M hs z ⟨1,x,b.r,b.s,none,0,0,[]⟩ ⟨J6.rd,J6.own.tag⟩ (fun k hk hm=>by have h7:=hAs k hk;have h8:=hf k hm;have h9:=DT.out.size;have:=U0.size;omega) (fun k hk hm=>by have h7:=hAs k hk;have h8:=eu k hm;have h9:=DT.out.size;have:=U0.size;omega) (by rw[ezb,ezp,eza];exact⟨hb3,hb,O5.2.2⟩) (aD.nil _ _) ⟨.inl ⟨rfl,rfl⟩,by show 0≤x∧x≤4095;omega,hbb.1,hbb.2,by simp[Rv.rc]⟩
      obtain⟨⟨a0,a1,a2,a3,a4,a5⟩,-⟩:=uB.c6
      obtain⟨⟨b0,b1⟩,-⟩:=hBb.c2
      rw[ez]at C3
      have HR:=HN.out
      rw[if_neg (by have:=zz.out;simpa using this.symm)]at HR
      rw[show(⟨1,x,b.r,b.s,none,0,0,[]⟩:Rv).rc=⟨1,x,b.r,b.s,[]⟩from rfl,←HR]at C3
      simp only[af.ptr,aN.val,Rv.aH]at C3
      clear HR HN hs J6 hBb uB hz ez ezb ezp eza O5 hb3
      repeat' first|go_guarded|go_step
      refine C3.mono ?_;rintro e w3 ⟨rfl,M3,h3,p3,g3,r3,V3⟩
      refine wk ?_
      go_ret
      exact⟨rfl,M3,h3,p3,g3,r3,(DT.out.mono (a':=M.fp) (b':=M.fp) (by simp) (fun k hk=>.inr (.inl hk))).trans V3⟩
end
def af.xn(M:af)(x:Int)(b:Bl):Mv:=⟨4,0,0,x,b.r,b.s,(M.bZ x).at_.r,(M.bZ x).at_.s,(M.bZ x).so,(M.bZ x).A,(M.bZ x).n,(M.bZ x).c,(M.bZ x).b⟩
theorem af.zI(M:af)(x:Int)(b:Bl):(M.xn x b).ms=M.pl.answer x b:=by
  unfold Site.answer
  rw[←af.nU]
  rfl
variable [eU]
theorem Cn(w:World)(M:af)(h:ay w M)(x:Int)(hx:(Lit.int .i64 x).wf=true)(b:Bl) :
    Calls prog 167 #[M.ptr,.int .i64 x,b.val] w fun e w'=>e=.returned (M.xn x b).val∧aa [] [] w w':=by
  obtain⟨W,H1,H2,H3,eW,h1,h2,h3,hB1,hB2,hB3,U0⟩:=G5 w 30 32 37 #[.int .i64 b.r,.int .i64 b.s] #[.int .i64 0,.int .i64 0,.int .i64 0,.int .i64 0,.int .i64 0,.int .i64 0,.int .i64 0,.int .i64 0,.bool false,.slice none 0 0] #[.int .i64 (M.bZ x).p.r,.int .i64 (M.bZ x).p.s,.bool (M.bZ x).so,.int .i64 (M.bZ x).at_.r,.int .i64 (M.bZ x).at_.s,.slice (M.bZ x).A (M.bZ x).n (M.bZ x).c]
  have Ua:aa [] [] w ((w.alloc (.cells #[.int .i64 b.r,.int .i64 b.s] 30)).alloc (.cells #[.int .i64 0,.int .i64 0,.int .i64 0,.int .i64 0,.int .i64 0,.int .i64 0,.int .i64 0,.int .i64 0,.bool false,.slice none 0 0] 32)):=((aa.refl [] w).alloc _).alloc _
  have l1:=(h.au Ua).look hx
  have q5:=(h.au Ua).blk.cell 5
  change World.cell? _ ⟨M.gs,5,none⟩=some (.map (some M.bs))at q5
  unfold af.xn
  generalize M.bZ x=y at *
  have K:=qU hB2 (.int .i64 4) (.int .i64 0) (.int .i64 0) (.int .i64 x) (.int .i64 b.r) (.int .i64 b.s) (.int .i64 y.at_.r) (.int .i64 y.at_.s) (.bool y.so) (.slice y.A y.n y.c)
  have u:=qR W H2 (.int .i64 4) (.int .i64 0) (.int .i64 0) (.int .i64 x) (.int .i64 b.r) (.int .i64 b.s) (.int .i64 y.at_.r) (.int .i64 y.at_.s) (.bool y.so) (.slice y.A y.n y.c)
  have U:=U0.g0.own (g:=H2) (by omega) u
  obtain⟨⟨a0,a1,a2,a3,a4,a5⟩,-⟩:=hB3.c6
  obtain⟨⟨b0,b1⟩,-⟩:=hB1.c2
  obtain⟨⟨e0,e1,e2,e3,e4,e5,e6,e7,e8,e9⟩,f0,f1,f2,f3,f4,f5,f6,f7,f8,f9⟩:=hB2.c10
  simp only[aN.val]at l1
  rw[af.ptr,Bl.val,Mv.aH]
  clear h Ua u hB1 hB2 hB3 U0
  go_enter func167,ntmps167
  refine wk ?_
  generalize hW:World.setCell _ _ _=W4
  rw[wX,hW]at K U
  obtain⟨⟨z0,z1,z2,z3,z4,z5,z6,z7,z8,z9⟩,-⟩:=K.c10
  exact bodyPost_ret (v:=.agg #[.int .i64 4,.int .i64 0,.int .i64 0,.int .i64 x,.int .i64 b.r,.int .i64 b.s,.int .i64 y.at_.r,.int .i64 y.at_.s,.bool y.so,.slice y.A y.n y.c]) (by simp[results,results167,go_sem,z0,z1,z2,z3,z4,z5,z6,z7,z8,z9]) rfl ⟨rfl,U⟩
end Go.Proofs.YtijhlbeipglieaaGreat
namespace aA
open Go List
theorem oK(w:World)(g:Nat)(v0 v1:Value):aa [g] [g] w ((w.setCell ⟨g,0,none⟩ v0).setCell ⟨g,1,none⟩ v1):=((aa.refl [g] w).setCell (p:=⟨g,0,none⟩) (.inl (by simp)) v0).setCell (p:=⟨g,1,none⟩) (.inl (by simp)) v1
theorem oJ{w:World}{g:Nat}{t:TypeId}{x0 x1:Value}(h:ak w g t #[x0,x1])(v0 v1:Value):ak ((w.setCell ⟨g,0,none⟩ v0).setCell ⟨g,1,none⟩ v1) g t #[v0,v1]:=(h.aO 0 v0).aO 1 v1
theorem Bl.BB{b:Bl}(h:b.may 7=true){me:Nat}(hm:me≤6):(b.next me).may 7=true:=by
  have:=Bl.jb.1 h
  unfold Bl.next
  split
  · omega
  · split
    · exact Bl.jb.2 (by simp only;omega)
    · exact Bl.jb.2 (by simp only;omega)
theorem Site.pq{s t:Site}{x:Int}{b:Bl}(h:s.promise x b=some t):t.me=s.me∧t.n=s.n∧t.held=s.held∧t.rs=s.rs∧t.stat x= {s.stat x with p:=b}:=by
  unfold Site.promise Site.note at h
  split at h
  · cases h
  · split at h
    · injection h with h
      rw[←h]
      refine⟨rfl,rfl,rfl,rfl,?_⟩
      show(aC x (aG x _ _)).getD _=_
      rw[kC,if_pos rfl]
      rfl
    · cases h
theorem Site.mX{s:Site}(h:s.Ok){x:Int}(hx:0≤x∧x<4096){b:Bl}(hb:b.may 7=true)(hf:(s.stat x).so=true∨(s.stat x).at_=⟨0,0⟩∧(s.stat x).b= []):(s.answer x b).Fit:=by
  have h1:=Bl.jb.1 hb
  obtain⟨h2,-,h3⟩:=h.stat x
  have h4:=Bl.jb.1 h3
  refine⟨by simp[Site.answer],by simp,by simp,by simp[Site.answer];omega,by simpa[Site.answer]using h1.1,by simpa[Site.answer]using h1.2,by simpa[Site.answer]using h4.1,by simpa[Site.answer]using h4.2,by simpa[Site.answer]using h2,?_⟩
  rcases hf with hf|⟨hf,hg⟩
  · exact .inl hf
  · right;simp[Site.answer,hf,hg]
end aA
namespace Go.Proofs.YtijhlbeipglieaaGreat
open Go.RowKit aA Go.Maps Tryz List
theorem af.abt(M:af)(x:Int):M.pl.low x=match aC x M.rs with|some r=>(if 0<bg r.ax (M.bZ x).p then r.ax else(M.bZ x).p)|none=>(M.bZ x).p:=by
  unfold Site.low
  rw[show aC x M.pl.rs=(aC x M.rs).map aS.pl from fH _ _ _,←af.nU]
  cases aC x M.rs<;>rfl
variable [eU]
theorem Qc(w:World)(M:af)(h:ay w M)(x:Int)(hx:0≤x∧x<4096)(hl:M.held.length≤800000000)(agJ:(M.pl.low x).may 7=true)(adn:(M.pl.stat x).so=true∨(M.pl.stat x).at_=⟨0,0⟩∧(M.pl.stat x).b= []) :
    Calls prog 98 #[M.ptr,.int .i64 x] w fun e w'=>e=.returned (.tuple #[])∧Gone w w' M (M.pl.dw x):=by
  have hwf:(Lit.int .i64 x).wf=true:=jV (by omega) (by omega)
  have hlk:=h.look hwf
  have q5:w.cell? ⟨M.gs,5,none⟩=some (.map (some M.bs)):=h.blk.cell 5
  obtain⟨W,H,eW,hH,hB,U0⟩:=az w 30 #[.int .i64 (M.bZ x).p.r,.int .i64 (M.bZ x).p.s]
  have h1:=h.au U0
  have dm:=U0.g0
  have q8:W.cell? ⟨M.gs,8,none⟩=some (.map (some M.br)):=h1.blk.cell 8
  have hlr:=h1.GI hwf
  have uu:=hdn (af.abt M x)
  obtain⟨pt,hpt⟩:=ex1 (((aC x M.rs).map aS.ptr).getD (.pointer none))
  obtain⟨th,hth⟩:=ex1 ((aC x M.rs).isSome)
  rw[hpt,hth]at hlr
  have Cz:=hdn hpt
  have Ff:=hdn hth
  clear hpt hth
  obtain⟨L,hL⟩:=ex1 (M.pl.low x)
  rw[hL]at uu agJ
  have HB0:=hdn (show M.pl.dw x=if bg (L.next M.me) L≤0 then M.pl else match M.pl.promise x (L.next M.me) with
      |none=>M.pl
      |some t=>((({t with rs:=aG x ⟨L.next M.me,[],false,[],[],0⟩ t.rs} :Site).others (Site.asks ⟨L.next M.me,[],false,[],[],0⟩ x) M.n).send
          (({t with rs:=aG x ⟨L.next M.me,[],false,[],[],0⟩ t.rs} :Site).others (Site.asks ⟨L.next M.me,[],false,[],[],0⟩ x) M.n).me
          ((({t with rs:=aG x ⟨L.next M.me,[],false,[],[],0⟩ t.rs} :Site).others (Site.asks ⟨L.next M.me,[],false,[],[],0⟩ x) M.n).answer x (L.next M.me))) by
    unfold Site.dw
    rw[hL];rfl)
  obtain⟨R,hR⟩:=ex1 (M.pl.dw x)
  rw[hR]at HB0 ⊢
  have hst:(M.bZ x).pl=M.pl.stat x:=af.nU M x
  clear hR hL
  rw[af.ptr]
  simp only[aN.val]at hlk
  have aiE:∀(w:World)(r s:Int)(so:Bool)(ar as_:Int)(A:Option Addr)(n c:Nat),(Instr.field 37 (.agg #[.int .i64 r,.int .i64 s,.bool so,.int .i64 ar,.int .i64 as_,.slice A n c]) 0).run prog w=.ok (.agg #[.int .i64 r,.int .i64 s]) w:=fun _ _ _ _ _ _ _ _ _=>by kernel_rfl
  obtain⟨P,hP⟩:=ex1 ((M.bZ x).p)
  rw[hP]at hlk hB uu eW
  go_enter func98,ntmps98
  repeat' go_step
  obtain⟨D,hD⟩:=ex1 ((match aC x M.rs with|some r=>decide (0<bg r.ax P)|none=>false))
  have HD:=hdn hD
  clear hD
  go_cut [36]from 27 (fun s36 wc=>s36=.bool D∧aa [] [] W wc)
  case first=>
    cases hq:aC x M.rs with
    |none=>
      simp only[hq,Option.map_none,Option.getD_none,Option.isSome_none]at HD Cz Ff
      obtain rfl:=Cz.out
      obtain rfl:=Ff.out
      have dO:=HD.out
      subst dO
      refine dx (by kernel_rfl) (by kernel_rfl) ?_
      repeat (go_big_quiet_step (fail))
      refine wpQuiet_nil ?_
      rintro _ ⟨p,rfl⟩
      refine wk ?_
      go_meet
      exact⟨rfl,p.u⟩
    |some r=>
      simp only[hq,Option.map_some,Option.getD_some,Option.isSome_some]at HD Cz Ff
      obtain rfl:=Cz.out
      obtain rfl:=Ff.out
      have dO:=HD.out
      subst dO
      rw[aS.ptr]
      have hRr:=h1.bV _ (aY hq)
      have c0:∀p:GU W,p.w.cell? ⟨r.g,0,none⟩=some (.int .i64 r.ax.r):=fun p=>p.u.cell (hRr.blk.cell 0) (by simp)
      have c1:∀p:GU W,p.w.cell? ⟨r.g,1,none⟩=some (.int .i64 r.ax.s):=fun p=>p.u.cell (hRr.blk.cell 1) (by simp)
      have d0:∀p:GU W,p.w.cell? ⟨H,0,none⟩=some (.int .i64 P.r):=fun p=>p.u.cell (hB.cell 0) (by simp)
      have d1:∀p:GU W,p.w.cell? ⟨H,1,none⟩=some (.int .i64 P.s):=fun p=>p.u.cell (hB.cell 1) (by simp)
      have CW:∀p:GU W,Calls prog 164 #[.agg #[.int .i64 r.ax.r,.int .i64 r.ax.s],.agg #[.int .i64 P.r,.int .i64 P.s]] p.w fun e w'=>e=.returned (.int .i64 (bg r.ax P))∧∃q:GU W,w'=q.w:=
        fun p=>p.call (om _ r.ax P)
      refine dx (by kernel_rfl) (by kernel_rfl) ?_
      repeat (go_big_quiet_step (exact CW _))
      refine wpQuiet_nil ?_
      rintro _ ⟨p,rfl⟩
      refine wk ?_
      go_meet
      exact⟨rfl,p.u⟩
  case rest=>
    obtain⟨rfl,UD⟩:=hcut
    have fM:=hB.upd UD
    have h2:=h1.au UD
    go_upto_if 36 with fail
    go_cut [4]from 27 (fun s4 wc=>s4=.pointer (some ⟨H,0,none⟩)∧ak wc H 30 #[.int .i64 L.r,.int .i64 L.s]∧aa [] [] w wc)
    case first=>
      cases D with
      |false=>
        have Js:L=P:=by
          have h1:=uu.out
          have h2:=HD.out
          cases hq:aC x M.rs with
          |none=>simp only[hq]at h1;exact h1
          |some r=>
            simp only[hq,decide_eq_false_iff_not]at h1 h2
            rw[if_neg h2]at h1
            exact h1
        have KEY:=hdn (show ak wc H 30 #[.int .i64 L.r,.int .i64 L.s] by rw[Js];exact fM)
        clear Js fM
        refine wk ?_
        go_meet
        exact⟨rfl,KEY.out,dm.trans UD⟩
      |true=>
        cases hq:aC x M.rs with
        |none=>have h2:=HD.out;simp only[hq]at h2;cases h2
        |some r=>
          have h1':=uu.out
          have h2':=HD.out
          have h3':=Cz.out
          simp only[hq,decide_eq_true_eq]at h1' h2' h3'
          rw[if_pos h2']at h1'
          simp only[Option.map_some,Option.getD_some]at h3'
          subst h1'
          subst h3'
          have hRr:=h2.bV _ (aY hq)
          have c0:wc.cell? ⟨r.g,0,none⟩=some (.int .i64 r.ax.r):=hRr.blk.cell 0
          have c1:wc.cell? ⟨r.g,1,none⟩=some (.int .i64 r.ax.s):=hRr.blk.cell 1
          obtain⟨⟨d0,d1⟩,f0,f1⟩:=fM.c2
          have KEY:=hdn (oJ fM (.int .i64 r.ax.r) (.int .i64 r.ax.s))
          have UK:=hdn ((dm.trans UD).own (g:=H) (by omega) (oK wc H (.int .i64 r.ax.r) (.int .i64 r.ax.s)))
          rw[aS.ptr]
          clear fM hRr h2' hq
          refine wk ?_
          go_meet
          exact⟨rfl,KEY.out,UK.out⟩
    case rest=>
      obtain⟨rfl,hBL,UL⟩:=hcut
      clear fM h2 UD h1 hB U0 dm hlr hlk q5 q8
      have h3:=h.au UL
      obtain⟨b,hb⟩:=ex1 (L.next M.me)
      rw[hb]at HB0
      have HBN:=hdn hb
      have CN:∀Wx:World,Calls prog 165 #[.agg #[.int .i64 L.r,.int .i64 L.s],.int .i64 (M.me:Int)] Wx fun e w'=>e=.returned (.agg #[.int .i64 b.r,.int .i64 b.s])∧aa [] [] Wx w':=fun Wx=>by
        have:=NB Wx L M.me
        rw[hb]at this;exact this
      clear hb
      obtain⟨Z,hZ⟩:∃Z:World,wc.alloc (.cells #[.int .i64 0,.int .i64 0] 30)=Z:=⟨_,rfl⟩
      have UZ:aa [] [] wc Z:=by rw[←hZ];exact(aa.refl [] wc).alloc _
      have BZ:ak Z wc.heap.size 30 #[.int .i64 0,.int .i64 0]:=by rw[←hZ];exact ak.new _ _ _
      have hHs:H<wc.heap.size:=hBL.lt
      have DZ:=hBL.upd UZ
      obtain⟨⟨p0,p1⟩,-⟩:=hBL.drew.c2
      obtain⟨⟨r0,r1⟩,-⟩:=DZ.drew.c2
      have q0:wc.drew.cell? ⟨M.gs,0,none⟩=some (.int .i64 (M.me:Int)):=h3.blk.cell 0
      have s0:Z.drew.cell? ⟨M.gs,0,none⟩=some (.int .i64 (M.me:Int)):=(h3.au UZ).blk.cell 0
      have ULs:=UL.size
      go_upto_region 4 with fail
      go_cut [7]from 41 (fun s7 wd=>∃G:Nat,s7=.pointer (some ⟨G,0,none⟩)∧ak wd G 30 #[.int .i64 b.r,.int .i64 b.s]∧ak wd H 30 #[.int .i64 L.r,.int .i64 L.s]∧w.heap.size≤G∧aa [] [] w wd)
      case first=>
        go_region_with (first
          |(go_at_call 165;(with_reducible refine(CN wc.drew).mono ?_);rintro e W1 ⟨rfl,hu⟩)
          |(go_at_call 165;(try rw[hZ]);(with_reducible refine(CN Z.drew).mono ?_);rintro e W1 ⟨rfl,hu⟩;have K:=BZ.drew.upd hu;obtain⟨⟨k0,k1⟩,e0,e1⟩:=K.c2)
          |(rw[hZ]))
        all_goals (refine bN ?_)
        all_goals go_meet
        all_goals first
          |(
             have KK:=oJ K (.int .i64 b.r) (.int .i64 b.s)
             have u6:=oK W1 wc.heap.size (.int .i64 b.r) (.int .i64 b.s)
             have KL:=(DZ.drew.upd hu).upd u6 (by simp only[mem_singleton];omega)
             exact⟨wc.heap.size,rfl,KK,KL,by omega,(UL.trans (((UZ.drew.trans hu).own (Nat.le_refl _) u6).gives (b':=[]) (by simp)))⟩)
          |(
             have KK:=ak.new W1 30 #[.int .i64 b.r,.int .i64 b.s]
             have hs6:wc.heap.size≤W1.heap.size:=hu.size
             exact⟨W1.heap.size,rfl,KK,(hBL.drew.upd hu).alloc _,by omega,UL.trans (((aa.refl [] wc).drew.trans hu).alloc _)⟩)
      case rest=>
        obtain⟨G,rfl,hBG,abu,I4,UG⟩:=hcut
        clear hBL CN UZ BZ DZ p0 p1 r0 r1 q0 s0 hZ UL h3
        have h4:=h.au UG
        have hfl:=h.lt
        have ib:b.may 7=true:=by rw[←HBN.out];exact Bl.BB agJ (by have:=h.ok.me;have h7:=h.ok.n7;have e1:M.pl.me=M.me:=rfl;have e2:M.pl.n=M.n:=rfl;omega)
        obtain⟨⟨g0,g1⟩,-⟩:=hBG.c2
        obtain⟨⟨l0,l1⟩,-⟩:=abu.c2
        have CC:=om wc b L
        simp only[Bl.val]at CC
        repeat' go_step
        refine CC.mono ?_;rintro e w5 ⟨rfl,bD⟩
        have U5:=UG.trans bD
        have h5:=h4.au bD
        have K5:=hBG.upd bD
        clear CC g0 g1 l0 l1 h4 hBG abu UG
        obtain⟨⟨g0,g1⟩,-⟩:=K5.c2
        by_cases hc:bg b L≤0
        · have dc:decide (bg b L≤0)=true:=dTx hc
          have dN:R=M.pl:=by rw[HB0.out,if_pos hc]
          have KEY:=hdn (show Gone w w5 M R from⟨M,h5,dN.symm,rfl,U5.up M.fp⟩)
          clear dN h5 U5
          refine wk ?_
          exact enT ⟨rfl,KEY.out⟩
        · have dc:decide (bg b L≤0)=false:=dFx hc
          have C6:=Aj w5 M h5 x hx b ib
          simp only[af.ptr,Bl.val]at C6
          have nY:G∉M.fp:=fun hk=>by have:=hfl G hk;omega
          cases abU:M.pl.promise x b with
          |none=>
            rw[abU]at C6
            have nP:=hdn (show R=M.pl by rw[HB0.out,if_neg hc,abU])
            repeat' first|go_guarded|go_step|simp only[];go_at_K
            refine C6.mono ?_;rintro e w6 ⟨rfl,M1,H6,iY,jy,-,U6⟩
            have KEY:=hdn (show Gone w w6 M R from⟨M1,H6,iY.trans nP.out.symm,jy,(U5.up M.fp).trans U6⟩)
            clear C6 H6 U6 U5 h5
            refine wk ?_
            exact enT ⟨rfl,KEY.out⟩
          |some t=>
            rw[abU]at C6
            have hRT:=HB0.out
            rw[if_neg hc,abU]at hRT
            have HRT:=hdn hRT
            obtain⟨tm,tn,PV,PW,tst⟩:=Site.pq abU
            clear hRT abU hc
            repeat' first|go_guarded|go_step|simp only[];go_at_K
            refine C6.mono ?_;rintro e w6 ⟨rfl,M1,H6,iY,jy,Ai,U6⟩
            replace iY:M1.pl=t:=iY
            have K6:=K5.upd U6 nY
            have hG1:=U6.eQ nY K5.lt
            have n1:M1.n=M.n:=(congrArg Site.n iY).trans tn
            have U60:=(U5.up M.fp).trans U6
            have T6:dF w6 ⟨none,0,0,[]⟩:=⟨aD.nil _ _,by simp[ah]⟩
            clear C6 g0 g1 K5 U6 U5 h5
            obtain⟨⟨g0,g1⟩,-⟩:=K6.c2
            obtain⟨W8,G2,JO,hG2,hBR,U8⟩:=az w6 132 #[.int .i64 b.r,.int .i64 b.s,.slice none 0 0,.bool false,.slice none 0 0,.slice none 0 0,.int .i64 0]
            have R8:o6 W8 ⟨G2,b,none,0,[],false,⟨none,0,0,[]⟩,none,0,[],0⟩:=⟨hBR,Own.nil _ _ _,Own.nil _ _ _⟩
            have H8:=H6.au U8
            obtain⟨w9,OV,mg,u9⟩:=H8.nN.store underlying3 underlying119 (by rw[mE];have:=H8.NL;unfold maxLen;omega) (x:=x) hwf (aS.ptr ⟨G2,b,none,0,[],false,⟨none,0,0,[]⟩,none,0,[],0⟩)
            rw[yR,←fE]at mg
            obtain⟨H9,V9⟩:=H6.aa6 (x:=x) hx ⟨G2,b,none,0,[],false,⟨none,0,0,[]⟩,none,0,[],0⟩ (w1:=W8) (by simpa[aS.fp,ah]using U8) R8 u9 mg (fun z hz=>by
              simp only[aS.bytes,map_nil,mem_singleton]at hz
              subst hz
              exact⟨T6,by simp[ah]⟩) ⟨by simp[aS.pl],ib,by simp[aS.pl]⟩
            have q8:W8.cell? ⟨M.gs,8,none⟩=some (.map (some M1.br)):=by rw[←jy];exact H8.blk.cell 8
            simp only[aS.ptr]at OV
            obtain⟨M3,jP⟩:∃M3:af,{M1 with rs:=aG x ⟨G2,b,none,0,[],false,⟨none,0,0,[]⟩,none,0,[],0⟩ M1.rs} =M3:=⟨_,rfl⟩
            rw[jP]at H9 V9
            have hp3:M3.pl= {t with rs:=aG x ⟨b,[],false,[],[],0⟩ t.rs}:=by
              rw[←jP,show({M1 with rs:=aG x ⟨G2,b,none,0,[],false,⟨none,0,0,[]⟩,none,0,[],0⟩ M1.rs} :af).pl= {M1.pl with rs:=aG x (aS.pl ⟨G2,b,none,0,[],false,⟨none,0,0,[]⟩,none,0,[],0⟩) M1.pl.rs}from by unfold af.pl;simp only[fE],iY]
              rfl
            have hg3:M3.gs=M.gs:=by rw[←jP];exact jy
            have acm:(x,(⟨G2,b,none,0,[],false,⟨none,0,0,[]⟩,none,0,[],0⟩:aS))∈M3.rs:=by rw[←jP];exact eY.2 (.inl rfl)
            have n3:M3.n=M.n:=by rw[←jP];exact n1
            have hh3:M3.held.length≤900000000:=by have:=congrArg (fun z:Site=>z.held.length) hp3;simp only[af.bf,PV]at this;omega
            have K9:=K6.upd V9 hG1
            have hG3:=V9.eQ hG1 K6.lt
            have U9:=U60.trans V9
            have tN:=wR w9 _ (H9.bV _ acm) x
            rw[show ic ⟨G2,b,none,0,[],false,⟨none,0,0,[]⟩,none,0,[],0⟩ x=⟨3,0,0,x,b.r,b.s,0,0,false,none,0,0,[]⟩from by simp[ic]]at tN
            have hms:Mv.ms ⟨3,0,0,x,b.r,b.s,0,0,false,none,0,0,[]⟩=Site.asks ⟨b,[],false,[],[],0⟩ x:=by simp[Site.asks,Mv.ms]
            have Cs:(Mv.ms ⟨3,0,0,x,b.r,b.s,0,0,false,none,0,0,[]⟩).Fit:=by rw[hms];exact Site.iT hx ib (by simp)
            have Ba:=fun(zq:World)(hu:aa [] [] w9 zq)=>kL zq M3 (H9.au hu) ⟨3,0,0,x,b.r,b.s,0,0,false,none,0,0,[]⟩ Cs (aD.nil _ _) (by simp[ah]) hh3
            simp only[hms,hp3,n3]at Ba
            simp only[af.ptr,hg3,aS.ptr,Mv.aH]at tN Ba
            clear jP R8 hBR H8 mg u9 T6 acm H6 K6 U60 V9 Cs hms
            repeat' first|go_guarded|go_step|simp only[];go_at_K
            refine tN.mono ?_;rintro e zq ⟨rfl,zC⟩
            repeat' first|go_step|simp only[];go_at_K
            refine(Ba zq zC).mono ?_;rintro e Kc ⟨rfl,M4,h11,Bc,g11,-,yj⟩
            have Xn:=(K9.upd zC).upd yj hG3
            have g4:M4.gs=M.gs:=g11.trans hg3
            have st4:M4.pl.stat x= {M.pl.stat x with p:=b}:=by rw[Bc,Site.bH];exact tst
            have Xo:M4.me=M.me:=by
              have:=congrArg Site.me Bc
              rw[(Site.fJ _ _).1]at this
              exact this.trans tm
            have hh4:M4.held.length≤1000000000:=by
              have h1:M4.held.length=M.held.length+(({t with rs:=aG x ⟨b,[],false,[],[],0⟩ t.rs} :Site).tell (Site.asks ⟨b,[],false,[],[],0⟩ x) M.n).length:=by
                rw[←af.bf,Bc,Site.bH]
                show(t.held++_).length=_
                rw[length_append,PV,af.bf]
              have h7:=h.ok.n7
              have e2:M.pl.n=M.n:=rfl
              have:=Site.gQ ({t with rs:=aG x ⟨b,[],false,[],[],0⟩ t.rs} :Site) (Site.asks ⟨b,[],false,[],[],0⟩ x) M.n
              omega
            have Cm:(M4.xn x b).ms.Fit:=by rw[af.zI];exact Site.mX h11.ok hx ib (by rw[st4];exact adn)
            have uN:=Cn Kc.drew M4 h11.drew x hwf b
            have Ia:=fun(xS:World)(hu:aa [] [] Kc.drew xS)=>jL xS M4 (h11.drew.au hu) (M.me:Int) (M4.xn x b) Cm (by have:=h.ok.me;have h7:=h.ok.n7;have e1:M.pl.me=M.me:=rfl;have e2:M.pl.n=M.n:=rfl;omega) (((h11.drew.au hu).tJ x).1.rd) hh4
            have z0:Kc.drew.cell? ⟨M.gs,0,none⟩=some (.int .i64 (M.me:Int)):=by rw[←g4,←Xo];exact h11.blk.cell 0
            have PT:=((U9.trans (zC.up M3.fp)).trans yj).drew
            rw[af.zI]at Ia
            obtain⟨av,qd⟩:∃z,(M4.xn x b).val=z:=⟨_,rfl⟩
            rw[qd]at uN
            simp only[qd,af.ptr,g4]at Ia
            simp only[af.ptr,g4,Bl.val]at uN
            obtain⟨⟨i0,i1⟩,-⟩:=Xn.drew.c2
            have Y5:M4.pl.me=M.me:=Xo
            have hsend:=Bc
            have HRF:=hdn (show R=M4.pl.send M.me (M4.pl.answer x b) by
              rw[HRT.out]
              show Site.send (Site.others _ _ _) _ _=_
              rw[←Bc,Y5])
            clear qd Cm hsend tN Ba h11 K9 Xn H9 yj zC U9 st4 Bc hp3 h agJ
            refine wk ?_
            go_region_with (first
              |(go_at_call 167;(with_reducible refine uN.mono ?_);rintro e xS ⟨rfl,lZ⟩;have z1:=lZ.cell z0 (by simp);have i2:=lZ.cell i0 (by simp);have i3:=lZ.cell i1 (by simp))
              |(go_at_call 64;(with_reducible refine(Ia xS lZ).mono ?_);rintro e w13 ⟨rfl,M5,YU,SX,SY,-,rM⟩))
            all_goals (refine bN ?_)
            all_goals exact enR ⟨rfl,M5,YU,SX.trans HRF.out.symm,SY.trans g4,(PT.trans (lZ.up M4.fp)).trans rM⟩
