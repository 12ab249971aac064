/- Merged: SiteW, SiteV, SiteV2, SiteX. -/
import Derived.Test.YtijhlbeipglieaaGreatPkSiteP
import Derived.Test.YtijhlbeipglieaaGreatPkSu
set_option linter.all false
set_option maxRecDepth 100000
set_option maxHeartbeats 4000000
namespace Agio
open Go
namespace Site
theorem skips_fit {x:Int} {b:Bl} (hx:0≤x∧x < 4096) (hb:b.may 7=true):(skips x b).Fit:=by
  have:=Bl.may7.1 hb
  exact ⟨by simp [skips],by simp,by simp,by simp [skips];omega,by simpa [skips] using this.1,by simpa [skips] using this.2,by simp [skips],by simp [skips],by simp [skips],by simp [skips]⟩
theorem skipF_stop (f c:Nat) (s:Site) (to:Int) (h:8≤c∨nextI s.me s.nx s.n < 0∨to≤nextI s.me s.nx s.n):skipF (f + 1) c s to=s:=by
  unfold skipF
  split
  · rfl
  · rw [if_pos (by omega)]
theorem skipF_none (f c:Nat) (s:Site) (to:Int) (hc:¬ 8≤c) (hx:¬ (nextI s.me s.nx s.n < 0∨to≤nextI s.me s.nx s.n)) (hf:s.fresh (nextI s.me s.nx s.n)=true) (ha:s.accept (nextI s.me s.nx s.n) s.ownB []=none):skipF (f + 1) c s to=s:=by
  unfold skipF
  rw [if_neg hc,if_neg hx,if_pos hf,ha]
theorem skipF_some (f c:Nat) (s t:Site) (to:Int) (hc:¬ 8≤c) (hx:¬ (nextI s.me s.nx s.n < 0∨to≤nextI s.me s.nx s.n)) (hf:s.fresh (nextI s.me s.nx s.n)=true) (ha:s.accept (nextI s.me s.nx s.n) s.ownB []=some t) :
    skipF (f + 1) c s to=skipF f (c + 1) (t.skip1 s.ownB (nextI s.me s.nx s.n)) to:=by
  conv=>lhs;unfold skipF
  rw [if_neg hc,if_neg hx,if_pos hf,ha]
theorem skipF_next (f c:Nat) (s:Site) (to:Int) (hc:¬ 8≤c) (hx:¬ (nextI s.me s.nx s.n < 0∨to≤nextI s.me s.nx s.n)) (hf:s.fresh (nextI s.me s.nx s.n)=false) :
    skipF (f + 1) c s to=skipF f c {s with nx:=(nextI s.me s.nx s.n + 1).toNat} to:=by
  conv=>lhs;unfold skipF
  rw [if_neg hc,if_neg hx,if_neg (by rw [hf];simp)]
end Site
end Agio
namespace Go.Proofs.YtijhlbeipglieaaGreat
open Go.RowKit Agio Go.Maps
def nxOf (w:World) (g:Nat):Nat:=match w.cell? ⟨g,9,none⟩ with | some (.int _ x)=>(4098 - x).toNat | _=>0
variable [Ban]
theorem SiteS.nxOf {w:World} {M:SiteV} (h:SiteS w M):Proofs.YtijhlbeipglieaaGreat.nxOf w M.gs=4098 - M.nx:=by
  have:w.cell? ⟨M.gs,9,none⟩=some (.int .i64 (M.nx:Int)):=h.blk.cell 9
  unfold Proofs.YtijhlbeipglieaaGreat.nxOf
  rw [this]
  show (4098 - (M.nx:Int)).toNat=_
  omega
theorem siteSkip (w:World) (M:SiteV) (h:SiteS w M) (to:Int) (hl:M.held.length≤700000000) :
    Calls Tryz.prog 96 #[M.ptr,.int .i64 to] w fun e w'=>e= .returned (.tuple #[])∧Goes w w' M (M.pl.skip to):=by
  obtain ⟨R,hR⟩:∃R,M.pl.skip to=R:=⟨_,rfl⟩
  have HR:=Lib.hid (show Site.skipF 4098 0 M.pl to=R from hR)
  rw [hR]
  clear hR
  rw [SiteV.ptr]
  have hmn:M.me < M.n:=h.ok.me
  have hn7:M.n≤7:=h.ok.n7
  go_enter Tryz.func96,Tryz.ntmps96
  repeat' (first|go_values|go_skip|go_guarded|go_step|go_upon|(simp only [];go_at_K))
  go_loopw [4] (fun v4 wr=>∃(c f:Nat) (M':SiteV),v4= .int .i64 (c:Int)∧c≤8∧SiteS wr M'∧Site.skipF f c M'.pl to=R∧4098≤f + M'.nx∧M'.gs=M.gs∧M'.rs=M.rs∧M'.me=M.me∧M'.n=M.n∧M'.held.length≤M.held.length + 10 * c∧Upd M.fp M'.fp w wr) (fun _ wr=>nxOf wr M.gs)
  case atStart=>exact ⟨0,4098,M,rfl,by omega,h,HR.out,by omega,rfl,rfl,rfl,rfl,by omega,Upd.refl _ _⟩
  case round=>
    obtain ⟨c,f,M',rfl,hc8,h',hsk,hfn,hg,hrs,hme,hn,hhl,U⟩:=hrel
    have hnx:M'.nx≤4096:=h'.ok.nx
    have HX0:=h'.nxOf
    rw [hg] at HX0
    obtain ⟨f',rfl⟩:∃f',f=f' + 1:=⟨f - 1,by omega⟩
    have HSK:=Lib.hid hsk
    clear hsk HR
    by_cases hc:c < 8
    · have hci:(c:Int) < 8:=by omega
      have hcw:IntKind.i64.wrap ((c:Int) + 1)=(c:Int) + 1:=by rw [IntKind.wrap_i64];omega
      have r0:wr.drew.cell? ⟨M.gs,0,none⟩=some (.int .i64 (M.me:Int)):=by rw [←hg,←hme];exact h'.blk.cell 0
      have r1:wr.drew.cell? ⟨M.gs,1,none⟩=some (.int .i64 (M.n:Int)):=by rw [←hg,←hn];exact h'.blk.cell 1
      have r9:wr.drew.cell? ⟨M.gs,9,none⟩=some (.int .i64 (M'.nx:Int)):=by rw [←hg];exact h'.blk.cell 9
      have C1:=slotsNext wr.drew M.me M'.nx M.n (by omega)
      obtain ⟨x,hx⟩:∃x,nextI M.me M'.nx M.n=x:=⟨_,rfl⟩
      have hxr:=nextI_range M.me M'.nx M.n
      rw [hx] at C1 hxr
      have hx':nextI M'.pl.me M'.pl.nx M'.pl.n=x:=by
        show nextI (M'.me:Int) M'.nx (M'.n:Int)=x
        rw [hme,hn];exact hx
      have HX:=Lib.hid hx'
      clear hx hx'
      repeat' (first|go_values|go_skip|go_guarded|go_step|go_upon|(simp only [];go_at_K))
      go_still_tail 13,(by kernel_rfl)
      change wpList _ _ _ _ _ wr.drew
      repeat' (first|go_values|go_skip|go_guarded|go_step|go_upon|(simp only [];go_at_K))
      ((with_reducible refine C1.mono ?_);rintro e w1 ⟨rfl,rfl⟩)
      clear C1
      have U1:Upd M.fp M'.fp w wr.drew:=U.drew
      have h1:=h'.drew
      clear U h' r0 r1 r9
      by_cases hstop:x < 0∨to≤x
      · have hRM:R=M'.pl:=by rw [←HSK.out,Site.skipF_stop _ _ _ _ (.inr (by rw [HX.out];exact hstop))]
        have KEY:=Lib.hid (show Goes w wr.drew M R from ⟨M',h1,hRM.symm,hg,hrs,U1⟩)
        clear hRM h1 U1
        by_cases hx0:x < 0
        · have d0:decide (x < 0)=true:=decide_eq_true hx0
          repeat' (first|go_values|go_skip|go_guarded|go_step|go_upon|(simp only [];go_at_K))
          exact bodyPost_ret (v:=.tuple #[]) (results_none rfl _ _ _) rfl ⟨rfl,KEY.out⟩
        · have d0:decide (x < 0)=false:=decide_eq_false hx0
          have d1:decide (to≤x)=true:=decide_eq_true (by omega)
          repeat' (first|go_values|go_skip|go_guarded|go_step|go_upon|(simp only [];go_at_K))
          exact bodyPost_ret (v:=.tuple #[]) (results_none rfl _ _ _) rfl ⟨rfl,KEY.out⟩
      · have d0:decide (x < 0)=false:=decide_eq_false (by omega)
        have d1:decide (to≤x)=false:=decide_eq_false (by omega)
        have hxb:(M'.nx:Int)≤x∧x < 4096:=by rcases hxr with h9 | h9 <;> omega
        have hw7:IntKind.i64.wrap (x + 1)=x + 1:=by rw [IntKind.wrap_i64];omega
        have hyn:(((x + 1).toNat:Nat):Int)=x + 1:=by omega
        have C2:=siteFresh wr.drew M' h1 x (wfI (by omega) (by omega))
        have HXP:=Lib.hid (show ¬ (nextI M'.pl.me M'.pl.nx M'.pl.n < 0∨to≤nextI M'.pl.me M'.pl.nx M'.pl.n) by rw [HX.out];exact hstop)
        obtain ⟨F,hF⟩:∃F,M'.pl.fresh x=F:=⟨_,rfl⟩
        have HF:=Lib.hid (show M'.pl.fresh (nextI M'.pl.me M'.pl.nx M'.pl.n)=F by rw [HX.out];exact hF)
        rw [hF,SiteV.ptr,hg] at C2
        clear hF hxr hstop
        have hob:(⟨0,M.me⟩:Bl).may 7=true:=by
          have:=h1.ok.own
          rw [show M'.pl.ownB=(⟨0,M.me⟩:Bl) by unfold Site.ownB;show (⟨0,(M'.me:Int)⟩:Bl)=_;rw [hme]] at this
          exact this
        cases F with
        | false=>
          repeat' (first|go_values|go_skip|go_guarded|go_step|go_upon|(simp only [];go_at_K))
          ((with_reducible refine C2.mono ?_);rintro e w3 ⟨rfl,hu3⟩)
          have h3:=h1.upd0 hu3
          have t9:w3.cell? ⟨M.gs,9,none⟩=some (.int .i64 (M'.nx:Int)):=by rw [←hg];exact h3.blk.cell 9
          have f9:w3.frozen? ⟨M.gs,9,none⟩=false:=by rw [←hg];exact h3.blk.frozen 9
          have u7:Upd [M'.gs] [M'.gs] w3 (w3.setCell ⟨M'.gs,9,none⟩ (.int .i64 (x + 1))):=(Upd.refl [M'.gs] w3).setCell (p:=⟨M'.gs,9,none⟩) (.inl (by simp)) _
          have hB7:=h3.blk.set_ 9 (.int .i64 (x + 1))
          have h7:=h3.scal M'.down M'.top (x + 1).toNat u7 (by simpa [SiteV.cells,hyn] using hB7) (h3.ok.setNx (k:=(x + 1).toNat) (by omega))
          obtain ⟨M7,hM7⟩:∃M7:SiteV,{M' with down:=M'.down,top:=M'.top,nx:=(x + 1).toNat} =M7:=⟨_,rfl⟩
          rw [hM7] at h7
          have hp7:M7.pl= {M'.pl with nx:=(x + 1).toNat}:=by rw [←hM7];rfl
          have hs7:M7.nx=(x + 1).toNat∧M7.gs=M'.gs∧M7.rs=M'.rs∧M7.me=M'.me∧M7.n=M'.n∧M7.held=M'.held∧M7.fp=M'.fp:=by rw [←hM7];exact ⟨rfl,rfl,rfl,rfl,rfl,rfl,rfl⟩
          clear hM7
          have U7:=(U1.trans (hu3.up _)).trans (u7.mono (a':=M'.fp) (b':=M'.fp) (fun k hk=>by simp only [List.mem_singleton] at hk;subst hk;simp [SiteV.fp]) (fun k hk=>.inr (.inl hk)))
          have HN7:=h7.nxOf
          have hS:=Site.skipF_next f' c M'.pl to (by omega) HXP.out HF.out
          rw [HSK.out,HX.out,←hp7] at hS
          obtain ⟨s1,s2,s3,s4,s5,s6,s7⟩:=hs7
          rw [←s7] at U7
          rw [s2,s1] at HN7
          have KEY:=Lib.hid (show ∃(c' f:Nat) (M2:SiteV),Value.int .i64 (c:Int)= .int .i64 (c':Int)∧c'≤8∧SiteS (w3.setCell ⟨M.gs,9,none⟩ (.int .i64 (x + 1))) M2∧Site.skipF f c' M2.pl to=R∧4098≤f + M2.nx∧M2.gs=M.gs∧M2.rs=M.rs∧M2.me=M.me∧M2.n=M.n∧M2.held.length≤M.held.length + 10 * c'∧Upd M.fp M2.fp w (w3.setCell ⟨M.gs,9,none⟩ (.int .i64 (x + 1))) from
            ⟨c,f',M7,rfl,hc8,by rw [←hg];exact h7,hS.symm,by omega,s2.trans hg,s3.trans hrs,s4.trans hme,s5.trans hn,by rw [s6];exact hhl,by rw [←hg,s7];rw [s7] at U7;exact U7⟩)
          have KM:=Lib.hid (show nxOf (w3.setCell ⟨M.gs,9,none⟩ (.int .i64 (x + 1))) M.gs < nxOf wr M.gs by
            have e1:nxOf (w3.setCell ⟨M.gs,9,none⟩ (.int .i64 (x + 1))) M.gs=4098 - (x + 1).toNat:=by rw [←hg];exact HN7
            rw [e1,HX0];omega)
          clear C2 h1 h3 u7 hB7 h7 U7 HN7 hS hu3 U1 s1 s2 s3 s4 s5 s6 s7
          repeat' (first|go_values|go_skip|go_guarded|go_step|go_upon|(simp only [];go_at_K))
          exact ⟨KEY.out,KM.out⟩
        | true=>
          have hgs0:M.gs∈M'.fp:=by rw [←hg];simp [SiteV.fp]
          repeat' (first|go_values|go_skip|go_guarded|go_step|go_upon|(simp only [];go_at_K))
          ((with_reducible refine C2.mono ?_);rintro e w3 ⟨rfl,hu3⟩)
          have h3:=h1.upd0 hu3
          have r0:w3.cell? ⟨M.gs,0,none⟩=some (.int .i64 (M.me:Int)):=by rw [←hg,←hme];exact h3.blk.cell 0
          obtain ⟨Wb,Hb,eWb,hHb,hBb,Ub⟩:=boxes1 w3 30 #[.int .i64 0,.int .i64 (M.me:Int)]
          have h4:=h3.upd0 Ub
          have U4:=(U1.trans (hu3.up _)).trans ((Ub.gives (b':=[]) (by simp)).up M'.fp)
          have hHf:Hb∉M'.fp:=fun hk=>by have:=h3.lt Hb hk;omega
          have C6:=siteAccept Wb M' h4 x (by omega) ⟨0,M.me⟩ hob none 0 0 [] (RdB.nil _ _) (by simp [ablk]) (by simp)
          have hown:M'.pl.ownB=(⟨0,M.me⟩:Bl):=by unfold Site.ownB;show (⟨0,(M'.me:Int)⟩:Bl)=_;rw [hme]
          simp only [SiteV.ptr,Bl.val,hg] at C6
          obtain ⟨⟨b0,b1⟩,-⟩:=hBb.c2
          clear C2 h3 hu3 U1 Ub
          cases hacc:M'.pl.accept x ⟨0,M.me⟩ [] with
          | none=>
            rw [hacc] at C6
            have hRM:R=M'.pl:=by rw [←HSK.out,Site.skipF_none _ _ _ _ (by omega) HXP.out HF.out (by rw [HX.out,hown];exact hacc)]
            have HRM:=Lib.hid hRM
            clear hRM
            repeat' (first|go_values|go_skip|go_guarded|go_step|go_upon|(simp only [];go_at_K))
            ((with_reducible refine C6.mono ?_);rintro e w6 ⟨rfl,M1,H6,hp6,hg6,hr6,U6⟩)
            have KEY:=Lib.hid (show Goes w w6 M R from ⟨M1,H6,hp6.trans HRM.out.symm,hg6.trans hg,hr6.trans hrs,U4.trans U6⟩)
            clear C6 H6 U6 U4
            repeat' (first|go_values|go_skip|go_guarded|go_step|go_upon|(simp only [];go_at_K))
            exact bodyPost_ret (v:=.tuple #[]) (results_none rfl _ _ _) rfl ⟨rfl,KEY.out⟩
          | some t=>
            rw [hacc] at C6
            have hS:=Site.skipF_some f' c M'.pl t to (by omega) HXP.out HF.out (by rw [HX.out,hown];exact hacc)
            rw [HSK.out,HX.out,hown] at hS
            have HS:=Lib.hid hS
            obtain ⟨tm,tn,th,-,-,-,-⟩:=Site.accept_fr hacc
            clear hS hacc
            repeat' (first|go_values|go_skip|go_guarded|go_step|go_upon|(simp only [];go_at_K))
            ((with_reducible refine C6.mono ?_);rintro e w6 ⟨rfl,M1,H6,hp6,hg6,hr6,U6⟩)
            replace hp6:M1.pl=t:=hp6
            have g1:M1.gs=M.gs:=hg6.trans hg
            have me1:M1.me=M.me:=(congrArg Site.me hp6).trans (tm.trans hme)
            have n1:M1.n=M.n:=(congrArg Site.n hp6).trans (tn.trans hn)
            have l1:M1.held.length=M'.held.length:=by have:=congrArg (fun z:Site=>z.held.length) hp6;simp only [SiteV.held_len,th] at this;exact this
            have K6:=hBb.upd U6 hHf
            have hHf1:=U6.notin hHf hBb.lt
            clear b0 b1
            obtain ⟨⟨b0,b1⟩,-⟩:=K6.c2
            clear C6
            repeat' (first|go_values|go_skip|go_guarded|go_step|go_upon|(simp only [];go_at_K))
            obtain ⟨W7,G,eW7,hG,hBG,U7⟩:=boxes1 w6 32 #[.int .i64 2,.int .i64 0,.int .i64 0,.int .i64 x,.int .i64 0,.int .i64 (M.me:Int),.int .i64 0,.int .i64 0,.bool false,.slice none 0 0]
            rw [eW7,hG]
            have h7:=H6.upd0 U7
            have hGf:G∉M1.fp:=fun hk=>by have:=H6.lt G hk;omega
            have hfit:(Mv.ms ⟨2,0,0,x,0,M.me,0,0,false,none,0,0,[]⟩).Fit:=Site.skips_fit (x:=x) (b:=⟨0,M.me⟩) (by omega) hob
            have C8:=siteOthers W7 M1 h7 ⟨2,0,0,x,0,M.me,0,0,false,none,0,0,[]⟩ hfit (RdB.nil _ _) (by simp [ablk]) (by omega)
            have hms:Mv.ms ⟨2,0,0,x,0,M.me,0,0,false,none,0,0,[]⟩=Site.skips x ⟨0,M.me⟩:=rfl
            rw [hms,hp6,n1] at C8
            simp only [SiteV.ptr,Mv.val_eq,g1] at C8
            obtain ⟨⟨m0,m1,m2,m3,m4,m5,m6,m7,m8,m9⟩,-⟩:=hBG.c10
            have U67:=(U4.trans U6).trans ((U7.gives (b':=[]) (by simp)).up M1.fp)
            clear H6 U6 U4 K6 hBb U7
            ((with_reducible refine C8.mono ?_);rintro e w8 ⟨rfl,M2,h8,hp8,hg8,hr8,U8⟩)
            have K8:=hBG.upd U8 hGf
            clear m0 m1 m2 m3 m4 m5 m6 m7 m8 m9 C8
            have me2:M2.me=M.me:=by
              have:=congrArg Site.me hp8
              rw [(Site.others_me _ _).1] at this
              exact this.trans (tm.trans hme)
            have n2:M2.n=M.n:=by
              have:=congrArg Site.n hp8
              rw [(Site.others_me _ _).2] at this
              exact this.trans (tn.trans hn)
            have l2:M2.held.length≤M'.held.length + 7:=by
              have e1:=congrArg (fun z:Site=>z.held.length) hp8
              simp only [SiteV.held_len,Site.others_eq,List.length_append,th] at e1
              have e2:=Site.tell_len t (Site.skips x ⟨0,M.me⟩) M.n
              omega
            have s0:w8.drew.cell? ⟨M.gs,0,none⟩=some (.int .i64 (M.me:Int)):=by rw [←g1,←hg8,←me2];exact h8.blk.cell 0
            obtain ⟨⟨m0,m1,m2,m3,m4,m5,m6,m7,m8,m9⟩,-⟩:=K8.drew.c10
            have C9:=siteSend w8.drew M2 h8.drew (M.me:Int) ⟨2,0,0,x,0,M.me,0,0,false,none,0,0,[]⟩ hfit (by omega) (RdB.nil _ _) (by omega)
            rw [hms,hp8] at C9
            simp only [SiteV.ptr,Mv.val_eq,hg8,g1] at C9
            repeat' (first|go_values|go_skip|go_guarded|go_step|go_upon|(simp only [];go_at_K))
            go_still_tail 6,(by kernel_rfl)
            change wpList _ _ _ _ _ w8.drew
            repeat' (first|go_values|go_skip|go_guarded|go_step|go_upon|(simp only [];go_at_K))
            ((with_reducible refine C9.mono ?_);rintro e w9 ⟨rfl,M3,h9,hp9,hg9,hr9,U9⟩)
            clear m0 m1 m2 m3 m4 m5 m6 m7 m8 m9 C9 K8 s0
            have g3:M3.gs=M.gs:=hg9.trans (hg8.trans g1)
            have me3:M3.me=M.me:=by have:=congrArg Site.me hp9;exact this.trans ((Site.others_me _ _).1.trans (tm.trans hme))
            have n3:M3.n=M.n:=by have:=congrArg Site.n hp9;exact this.trans ((Site.others_me _ _).2.trans (tn.trans hn))
            have l3:M3.held.length≤M'.held.length + 8:=by
              have e1:=congrArg (fun z:Site=>z.held.length) hp9
              rw [←hp8] at e1
              simp only [SiteV.held_len,Site.send,List.length_append,List.length_cons,List.length_nil] at e1
              omega
            have u7:Upd [M3.gs] [M3.gs] w9 (w9.setCell ⟨M3.gs,9,none⟩ (.int .i64 (x + 1))):=(Upd.refl [M3.gs] w9).setCell (p:=⟨M3.gs,9,none⟩) (.inl (by simp)) _
            have hB7:=h9.blk.set_ 9 (.int .i64 (x + 1))
            have t9:w9.cell? ⟨M.gs,9,none⟩=some (.int .i64 (M3.nx:Int)):=by rw [←g3];exact h9.blk.cell 9
            have f9:w9.frozen? ⟨M.gs,9,none⟩=false:=by rw [←g3];exact h9.blk.frozen 9
            have h10:=h9.scal M3.down M3.top (x + 1).toNat u7 (by simpa [SiteV.cells,hyn] using hB7) (h9.ok.setNx (k:=(x + 1).toNat) (by omega))
            obtain ⟨M4,hM4⟩:∃M4:SiteV,{M3 with down:=M3.down,top:=M3.top,nx:=(x + 1).toNat} =M4:=⟨_,rfl⟩
            rw [hM4] at h10
            have hp10:M4.pl=t.skip1 ⟨0,M.me⟩ x:=by
              have e1:M4.pl= {M3.pl with nx:=(x + 1).toNat}:=by rw [←hM4];rfl
              rw [e1,hp9]
              unfold Site.skip1
              rw [tm,tn,show M'.pl.me=M.me from hme,show M'.pl.n=M.n from hn]
            obtain ⟨q1,q2,q3,q4,q5,q6,q7⟩:M4.nx=(x + 1).toNat∧M4.gs=M3.gs∧M4.rs=M3.rs∧M4.me=M3.me∧M4.n=M3.n∧M4.held=M3.held∧M4.fp=M3.fp:=by rw [←hM4];exact ⟨rfl,rfl,rfl,rfl,rfl,rfl,rfl⟩
            have U10:Upd M.fp M4.fp w (w9.setCell ⟨M3.gs,9,none⟩ (.int .i64 (x + 1))):=by
              rw [q7]
              exact (((U67.trans U8).drew).trans U9).trans (u7.mono (a':=M3.fp) (b':=M3.fp) (fun k hk=>by simp only [List.mem_singleton] at hk;subst hk;simp [SiteV.fp]) (fun k hk=>.inr (.inl hk)))
            have HN7:=h10.nxOf
            rw [q2,q1] at HN7
            have KEY:=Lib.hid (show ∃(c' f:Nat) (M2:SiteV),Value.int .i64 ((c:Int) + 1)= .int .i64 (c':Int)∧c'≤8∧SiteS (w9.setCell ⟨M.gs,9,none⟩ (.int .i64 (x + 1))) M2∧Site.skipF f c' M2.pl to=R∧4098≤f + M2.nx∧M2.gs=M.gs∧M2.rs=M.rs∧M2.me=M.me∧M2.n=M.n∧M2.held.length≤M.held.length + 10 * c'∧Upd M.fp M2.fp w (w9.setCell ⟨M.gs,9,none⟩ (.int .i64 (x + 1))) from
              ⟨c + 1,f',M4,by simp,by omega,by rw [←g3];exact h10,by rw [hp10];exact HS.out.symm,by omega,q2.trans g3,q3.trans (hr9.trans (hr8.trans (hr6.trans hrs))),q4.trans me3,q5.trans n3,by rw [q6];omega,by rw [←g3];exact U10⟩)
            have KM:=Lib.hid (show nxOf (w9.setCell ⟨M.gs,9,none⟩ (.int .i64 (x + 1))) M.gs < nxOf wr M.gs by
              have e1:nxOf (w9.setCell ⟨M.gs,9,none⟩ (.int .i64 (x + 1))) M.gs=4098 - (x + 1).toNat:=by rw [←g3];exact HN7
              rw [e1,HX0];omega)
            clear h9 u7 hB7 h10 U10 HN7 U9 h8 U8 U67 hp10 hM4 q1 q2 q3 q4 q5 q6 q7
            repeat' (first|go_values|go_skip|go_guarded|go_step|go_upon|(simp only [];go_at_K))
            exact ⟨KEY.out,KM.out⟩
    · have hRM:R=M'.pl:=by rw [←HSK.out,Site.skipF_stop _ _ _ _ (.inl (by omega))]
      have hci:¬ (c:Int) < 8:=by omega
      have KEY:=Lib.hid (show Goes w wr M R from ⟨M',h',hRM.symm,hg,hrs,U⟩)
      clear hRM h' U
      repeat' (first|go_values|go_skip|go_guarded|go_step|go_upon|(simp only [];go_at_K))
      exact bodyPost_end (results_none rfl _ _ _) rfl ⟨rfl,KEY.out⟩
end Go.Proofs.YtijhlbeipglieaaGreat
namespace Go.Proofs.YtijhlbeipglieaaGreat
open Go.RowKit Agio Go.Maps
variable [Ban]
theorem sitePromise (w:World) (M:SiteV) (h:SiteS w M) (x:Int) (hx:0≤x∧x < 4096) (b:Bl) (hb:b.may 7=true) :
    Calls Tryz.prog 166 #[M.ptr,.int .i64 x,b.val] w fun e w'=>e= .returned (.bool (M.pl.promise x b).isSome)∧Goes w w' M ((M.pl.promise x b).getD M.pl):=by
  have hwf:(Lit.int .i64 x).wf=true:=wfI (by omega) (by omega)
  obtain ⟨W,H,eW,hH,hB,U0⟩:=boxes1 w 30 #[.int .i64 b.r,.int .i64 b.s]
  have h1:=h.upd0 U0
  have hl:=h1.look hwf
  obtain ⟨hb1,hb2,hb3⟩:=h1.sta_in x
  have hstat:=h.ok.stat x
  rw [←SiteV.sta_pl] at hstat
  have HN:=Lib.hid (show M.pl.promise x b=if b.r < 1∨cmpB b (M.sta x).p < 0 then none else M.pl.note {(M.sta x).pl with p:=b} ⟨1,x,b.r,b.s,[]⟩ by
    unfold Site.promise;rw [←SiteV.sta_pl];rfl)
  obtain ⟨R,hR⟩:∃R,M.pl.promise x b=R:=⟨_,rfl⟩
  rw [hR] at HN ⊢
  clear hR
  have C:∀(Wx:World) (hU:Upd [] [] W Wx),Calls Tryz.prog 231 #[(M.sta x).val,b.val] Wx fun e w'=>∃z:Sta,e= .returned (.tuple #[.agg #[.int .i64 z.p.r,.int .i64 z.p.s,.bool z.so,.int .i64 z.at_.r,.int .i64 z.at_.s,.slice z.A z.n z.c],.bool (prepS (M.sta x) b).isSome])∧
      ((prepS (M.sta x) b).isSome=true→z.pl= {(M.sta x).pl with p:=b}∧OwnB 5 w' z.A z.n z.c z.b)∧Upd [] (ablk z.A) Wx w':=fun Wx hU=>by
    refine (accPrepare Wx (M.sta x) b (RdB.upd hb1.rd hU (by simp)) (by have:=hb3;omega)).mono ?_
    rintro e w' ⟨A,n,c,ho,hu,rfl⟩
    refine ⟨{M.sta x with p:=(prepS (M.sta x) b).getD (M.sta x).p,A:=A,n:=n,c:=c},rfl,fun hh=>⟨?_,ho⟩,hu⟩
    have hp:prepS (M.sta x) b=some b:=by
      unfold prepS at hh ⊢
      split
      · rename_i hc;rw [if_pos hc] at hh;cases hh
      · rfl
    simp only [Sta.pl,hp,Option.getD_some]
  obtain ⟨Z,hZ⟩:∃Z:World,W.alloc (.cells #[.int .i64 0,.int .i64 0,.bool false,.int .i64 0,.int .i64 0,.slice none 0 0] 37)=Z:=⟨_,rfl⟩
  have UZ:Upd [] [] W Z:=by rw [←hZ];exact (Upd.refl [] W).alloc _
  have BZ:Blk Z W.heap.size 37 #[.int .i64 0,.int .i64 0,.bool false,.int .i64 0,.int .i64 0,.slice none 0 0]:=by rw [←hZ];exact Blk.new _ _ _
  have hl1:(Instr.lookup 117 (.map (some M.bs)) (.int .i64 x) false).run Tryz.prog W.drew= .ok (M.sta x).val W.drew:=h1.drew.look hwf
  have hl2:(Instr.lookup 117 (.map (some M.bs)) (.int .i64 x) false).run Tryz.prog Z.drew= .ok (M.sta x).val Z.drew:=(h1.upd0 UZ).drew.look hwf
  obtain ⟨⟨p0,p1⟩,-⟩:=hB.c2
  obtain ⟨⟨r0,r1⟩,-⟩:=(hB.upd UZ (by simp)).c2
  have q5:W.cell? ⟨M.gs,5,none⟩=some (.map (some M.bs)):=h1.blk.cell 5
  have s5:Z.cell? ⟨M.gs,5,none⟩=some (.map (some M.bs)):=(h1.upd0 UZ).blk.cell 5
  have hHl:=hB.lt
  have HAC:=Lib.hid (show (prepS (M.sta x) b).isSome=!decide (b.r < 1∨cmpB b (M.sta x).p < 0) by unfold prepS;split <;> simp_all)
  clear hl hb1 hb2
  generalize M.sta x=y at *
  obtain ⟨yv,hyv⟩:∃z,y.val=z:=⟨_,rfl⟩
  obtain ⟨ac,hac⟩:∃z,(prepS y b).isSome=z:=⟨_,rfl⟩
  simp only [hyv,hac] at C hl1 hl2
  rw [hac] at HAC
  rw [Bl.val,SiteV.ptr]
  simp only [Bl.val] at C
  clear hac
  go_enter Tryz.func166,Tryz.ntmps166
  repeat' (first|go_values|go_skip|go_guarded|go_step|go_upon|(simp only [];go_at_K))
  go_cut [7,8] from 9 (fun s7 s8 wc=>∃(g:Nat) (z:Sta),s7= .pointer (some ⟨g,0,none⟩)∧s8= .bool ac∧Blk wc g 37 #[.int .i64 z.p.r,.int .i64 z.p.s,.bool z.so,.int .i64 z.at_.r,.int .i64 z.at_.s,.slice z.A z.n z.c]∧
    (ac=true→z.pl= {y.pl with p:=b}∧OwnB 5 wc z.A z.n z.c z.b)∧W.heap.size≤g∧(∀k∈ablk z.A,W.heap.size≤k)∧Upd [] [] W wc)
  case first=>
    go_region_with (first
      | (go_at_call 231;(with_reducible refine (C W.drew (Upd.refl [] W).drew).mono ?_);rintro e W1 ⟨z,rfl,hz,hu⟩)
      | (go_at_call 231;(try rw [hZ]);(with_reducible refine (C Z.drew UZ.drew).mono ?_);rintro e W1 ⟨z,rfl,hz,hu⟩;have K:=BZ.drew.upd hu (by simp);obtain ⟨⟨k0,k1,k2,k3,k4,k5⟩,e0,e1,e2,e3,e4,e5⟩:=K.c6)
      | (rw [hZ]))
    all_goals (repeat' (first | go_values | go_skip | go_guarded | go_step | go_upon | (simp only [];go_at_K)))
    all_goals go_meet
    all_goals first
      | (have KK:=blk_set6 K (.int .i64 z.p.r) (.int .i64 z.p.s) (.bool z.so) (.int .i64 z.at_.r) (.int .i64 z.at_.s) (.slice z.A z.n z.c)
         have u6:=upd_set6 W1 W.heap.size (.int .i64 z.p.r) (.int .i64 z.p.s) (.bool z.so) (.int .i64 z.at_.r) (.int .i64 z.at_.s) (.slice z.A z.n z.c)
         have hA6:=UZ.drew.new hu
         have hB6:=(Upd.refl [] Z).drew.new hu
         have U6:=((UZ.drew.trans hu).own (Nat.le_refl _) u6).gives (b':=[]) (by simp)
         have E6:ac=true→z.pl= {y.pl with p:=b}∧OwnB 5 (set6 W1 W.heap.size (.int .i64 z.p.r) (.int .i64 z.p.s) (.bool z.so) (.int .i64 z.at_.r) (.int .i64 z.at_.s) (.slice z.A z.n z.c)) z.A z.n z.c z.b:=fun ha=>⟨(hz ha).1,(hz ha).2.upd u6 (fun k hk=>by
           have h8:=BZ.lt
           have h9:Z.heap.size≤k:=hB6 k hk
           simp only [List.mem_singleton];omega)⟩
         exact ⟨W.heap.size,z,rfl,rfl,KK,E6,Nat.le_refl _,hA6,U6⟩)
      | (have KK:=Blk.new W1 37 #[.int .i64 z.p.r,.int .i64 z.p.s,.bool z.so,.int .i64 z.at_.r,.int .i64 z.at_.s,.slice z.A z.n z.c]
         have U6:=((((Upd.refl [] W).drew.trans hu).alloc (.cells #[.int .i64 z.p.r,.int .i64 z.p.s,.bool z.so,.int .i64 z.at_.r,.int .i64 z.at_.s,.slice z.A z.n z.c] 37)).gives (b':=[]) (by simp))
         have hA6:=(Upd.refl [] W).drew.new hu
         have hs6:W.heap.size≤W1.heap.size:=hu.size
         exact ⟨W1.heap.size,z,rfl,rfl,KK,fun ha=>⟨(hz ha).1,(hz ha).2.alloc _⟩,hs6,hA6,U6⟩)
  case rest=>
    obtain ⟨g,z,rfl,rfl,hBz,hz,hgs,hAs,U1⟩:=hcut
    have hs:=h1.upd0 U1
    have hBb:=hB.upd U1 (by simp)
    have U2:=U0.trans (U1.up _)
    have HU2:=Lib.hid U2
    have hf:=h.lt
    have hBn:=h.ban
    clear C UZ BZ hl1 hl2 h1 hB U1 p0 p1 r0 r1 q5 s5 U2
    cases ac with
    | false=>
      repeat' (first|go_values|go_skip|go_guarded|go_step|go_upon|(simp only [];go_at_K))
      have HR:=HN.out
      rw [if_pos (Classical.byContradiction fun hc=>by have h9:=HAC.out;rw [decide_eq_false hc] at h9;cases h9)] at HR
      subst HR
      go_ret
      exact ⟨rfl,M,hs,rfl,rfl,rfl,HU2.out.mono (by simp) (fun k hk=>.inr (.inl hk))⟩
    | true=>
      obtain ⟨ez,hoz⟩:=hz rfl
      have hbb:=Bl.may7.1 hb
      have ezb:z.b=y.b:=congrArg Sp.b ez
      have ezp:z.p=b:=congrArg Sp.p ez
      have eza:z.at_=y.at_:=congrArg Sp.at_ ez
      have C3:=siteNote wc M hs z ⟨1,x,b.r,b.s,none,0,0,[]⟩ ⟨hoz.rd,hoz.own.tag⟩ (fun k hk hm=>by have h7:=hAs k hk;have h8:=hf k hm;have h9:=HU2.out.size;have:=U0.size;omega) (fun k hk hm=>by have h7:=hAs k hk;have h8:=hBn k hm;have h9:=HU2.out.size;have:=U0.size;omega) (by rw [ezb,ezp,eza];exact ⟨hb3,hb,hstat.2.2⟩) (RdB.nil _ _) ⟨.inl ⟨rfl,rfl⟩,by show 0≤x∧x≤4095;omega,hbb.1,hbb.2,by simp [Rv.rc]⟩
      obtain ⟨⟨a0,a1,a2,a3,a4,a5⟩,-⟩:=hBz.c6
      obtain ⟨⟨b0,b1⟩,-⟩:=hBb.c2
      rw [ez] at C3
      have HR:=HN.out
      rw [if_neg (by have:=HAC.out;simpa using this.symm)] at HR
      rw [show (⟨1,x,b.r,b.s,none,0,0,[]⟩:Rv).rc=⟨1,x,b.r,b.s,[]⟩ from rfl,←HR] at C3
      simp only [SiteV.ptr,Sta.val,Rv.val_eq] at C3
      clear HR HN hs hoz hBb hBz hz ez ezb ezp eza hstat hb3
      repeat' (first|go_values|go_skip|go_guarded|go_step|go_upon|(simp only [];go_at_K))
      ((with_reducible refine C3.mono ?_);rintro e w3 ⟨rfl,M3,h3,p3,g3,r3,V3⟩)
      repeat' (first|go_values|go_skip|go_guarded|go_step|go_upon|(simp only [];go_at_K))
      go_ret
      exact ⟨rfl,M3,h3,p3,g3,r3,(HU2.out.mono (a':=M.fp) (b':=M.fp) (by simp) (fun k hk=>.inr (.inl hk))).trans V3⟩
end Go.Proofs.YtijhlbeipglieaaGreat
namespace Go.Proofs.YtijhlbeipglieaaGreat
open Go.RowKit Agio Go.Maps
def SiteV.ansV (M:SiteV) (x:Int) (b:Bl):Mv:=⟨4,0,0,x,b.r,b.s,(M.sta x).at_.r,(M.sta x).at_.s,(M.sta x).so,(M.sta x).A,(M.sta x).n,(M.sta x).c,(M.sta x).b⟩
theorem SiteV.ansV_ms (M:SiteV) (x:Int) (b:Bl):(M.ansV x b).ms=M.pl.answer x b:=by
  unfold Site.answer
  rw [←SiteV.sta_pl]
  rfl
variable [Ban]
theorem siteAnswer (w:World) (M:SiteV) (h:SiteS w M) (x:Int) (hx:(Lit.int .i64 x).wf=true) (b:Bl) :
    Calls Tryz.prog 167 #[M.ptr,.int .i64 x,b.val] w fun e w'=>e= .returned (M.ansV x b).val∧Upd [] [] w w':=by
  obtain ⟨W,H1,H2,H3,eW,h1,h2,h3,hB1,hB2,hB3,U0⟩:=boxes3 w 30 32 37 #[.int .i64 b.r,.int .i64 b.s] #[.int .i64 0,.int .i64 0,.int .i64 0,.int .i64 0,.int .i64 0,.int .i64 0,.int .i64 0,.int .i64 0,.bool false,.slice none 0 0] #[.int .i64 (M.sta x).p.r,.int .i64 (M.sta x).p.s,.bool (M.sta x).so,.int .i64 (M.sta x).at_.r,.int .i64 (M.sta x).at_.s,.slice (M.sta x).A (M.sta x).n (M.sta x).c]
  have Ua:Upd [] [] w ((w.alloc (.cells #[.int .i64 b.r,.int .i64 b.s] 30)).alloc (.cells #[.int .i64 0,.int .i64 0,.int .i64 0,.int .i64 0,.int .i64 0,.int .i64 0,.int .i64 0,.int .i64 0,.bool false,.slice none 0 0] 32)):=((Upd.refl [] w).alloc _).alloc _
  have l1:=(h.upd0 Ua).look hx
  have q5:=(h.upd0 Ua).blk.cell 5
  change World.cell? _ ⟨M.gs,5,none⟩=some (.map (some M.bs)) at q5
  unfold SiteV.ansV
  generalize M.sta x=y at *
  have K:=blk_set10 hB2 (.int .i64 4) (.int .i64 0) (.int .i64 0) (.int .i64 x) (.int .i64 b.r) (.int .i64 b.s) (.int .i64 y.at_.r) (.int .i64 y.at_.s) (.bool y.so) (.slice y.A y.n y.c)
  have u:=upd_set10 W H2 (.int .i64 4) (.int .i64 0) (.int .i64 0) (.int .i64 x) (.int .i64 b.r) (.int .i64 b.s) (.int .i64 y.at_.r) (.int .i64 y.at_.s) (.bool y.so) (.slice y.A y.n y.c)
  have U:=(U0.gives (b':=[]) (by simp)).own (g:=H2) (by omega) u
  obtain ⟨⟨a0,a1,a2,a3,a4,a5⟩,-⟩:=hB3.c6
  obtain ⟨⟨b0,b1⟩,-⟩:=hB1.c2
  obtain ⟨⟨e0,e1,e2,e3,e4,e5,e6,e7,e8,e9⟩,f0,f1,f2,f3,f4,f5,f6,f7,f8,f9⟩:=hB2.c10
  simp only [Sta.val] at l1
  rw [SiteV.ptr,Bl.val,Mv.val_eq]
  clear h Ua u hB1 hB2 hB3 U0
  go_enter Tryz.func167,Tryz.ntmps167
  repeat' (first|go_values|go_skip|go_guarded|go_step|go_upon|(simp only [];go_at_K))
  generalize hW:World.setCell _ _ _=W4
  rw [set10,hW] at K U
  obtain ⟨⟨z0,z1,z2,z3,z4,z5,z6,z7,z8,z9⟩,-⟩:=K.c10
  exact bodyPost_ret (v:=.agg #[.int .i64 4,.int .i64 0,.int .i64 0,.int .i64 x,.int .i64 b.r,.int .i64 b.s,.int .i64 y.at_.r,.int .i64 y.at_.s,.bool y.so,.slice y.A y.n y.c]) (by simp [results,Tryz.results167,go_sem,z0,z1,z2,z3,z4,z5,z6,z7,z8,z9]) rfl ⟨rfl,U⟩
end Go.Proofs.YtijhlbeipglieaaGreat
namespace Agio
open Go
theorem upd_set2 (w:World) (g:Nat) (v0 v1:Value):Upd [g] [g] w ((w.setCell ⟨g,0,none⟩ v0).setCell ⟨g,1,none⟩ v1):=((Upd.refl [g] w).setCell (p:=⟨g,0,none⟩) (.inl (by simp)) v0).setCell (p:=⟨g,1,none⟩) (.inl (by simp)) v1
theorem blk_set2 {w:World} {g:Nat} {t:TypeId} {x0 x1:Value} (h:Blk w g t #[x0,x1]) (v0 v1:Value):Blk ((w.setCell ⟨g,0,none⟩ v0).setCell ⟨g,1,none⟩ v1) g t #[v0,v1]:=(h.set_ 0 v0).set_ 1 v1
theorem Bl.next_may {b:Bl} (h:b.may 7=true) {me:Nat} (hm:me≤6):(b.next me).may 7=true:=by
  have:=Bl.may7.1 h
  unfold Bl.next
  split
  · omega
  · split
    · exact Bl.may7.2 (by simp only;omega)
    · exact Bl.may7.2 (by simp only;omega)
theorem Site.promise_fr {s t:Site} {x:Int} {b:Bl} (h:s.promise x b=some t):t.me=s.me∧t.n=s.n∧t.held=s.held∧t.rs=s.rs∧t.stat x= {s.stat x with p:=b}:=by
  unfold Site.promise Site.note at h
  split at h
  · cases h
  · split at h
    · injection h with h
      rw [←h]
      refine ⟨rfl,rfl,rfl,rfl,?_⟩
      show (lookG x (putG x _ _)).getD _=_
      rw [lookG_put,if_pos rfl]
      rfl
    · cases h
theorem Site.answer_fit {s:Site} (h:s.Ok) {x:Int} (hx:0≤x∧x < 4096) {b:Bl} (hb:b.may 7=true) (hf:(s.stat x).so=true∨(s.stat x).at_=⟨0,0⟩∧(s.stat x).b= []):(s.answer x b).Fit:=by
  have h1:=Bl.may7.1 hb
  obtain ⟨h2,-,h3⟩:=h.stat x
  have h4:=Bl.may7.1 h3
  refine ⟨by simp [Site.answer],by simp,by simp,by simp [Site.answer];omega,by simpa [Site.answer] using h1.1,by simpa [Site.answer] using h1.2,by simpa [Site.answer] using h4.1,by simpa [Site.answer] using h4.2,by simpa [Site.answer] using h2,?_⟩
  rcases hf with hf | ⟨hf,hg⟩
  · exact .inl hf
  · right;simp [Site.answer,hf,hg]
end Agio
namespace Go.Proofs.YtijhlbeipglieaaGreat
open Go.RowKit Agio Go.Maps
theorem SiteV.low_pl (M:SiteV) (x:Int):M.pl.low x=match lookG x M.rs with | some r=>(if 0 < cmpB r.bal (M.sta x).p then r.bal else (M.sta x).p) | none=>(M.sta x).p:=by
  unfold Site.low
  rw [show lookG x M.pl.rs=(lookG x M.rs).map RnV.pl from lookG_map _ _ _,←SiteV.sta_pl]
  cases lookG x M.rs <;> rfl
variable [Ban]
theorem siteBegin (w:World) (M:SiteV) (h:SiteS w M) (x:Int) (hx:0≤x∧x < 4096) (hl:M.held.length≤800000000) (hlow:(M.pl.low x).may 7=true)
    (hfit:(M.pl.stat x).so=true∨(M.pl.stat x).at_=⟨0,0⟩∧(M.pl.stat x).b= []) :
    Calls Tryz.prog 98 #[M.ptr,.int .i64 x] w fun e w'=>e= .returned (.tuple #[])∧Gone w w' M (M.pl.begin_ x):=by
  have hwf:(Lit.int .i64 x).wf=true:=wfI (by omega) (by omega)
  have hlk:=h.look hwf
  have q5:w.cell? ⟨M.gs,5,none⟩=some (.map (some M.bs)):=h.blk.cell 5
  obtain ⟨W,H,eW,hH,hB,U0⟩:=boxes1 w 30 #[.int .i64 (M.sta x).p.r,.int .i64 (M.sta x).p.s]
  have h1:=h.upd0 U0
  have U0':=U0.gives (b':=[]) (by simp)
  have q8:W.cell? ⟨M.gs,8,none⟩=some (.map (some M.br)):=h1.blk.cell 8
  have hlr:=h1.lookR hwf
  have HLOW:=Lib.hid (SiteV.low_pl M x)
  obtain ⟨pt,hpt⟩:∃pt,((lookG x M.rs).map RnV.ptr).getD (.pointer none)=pt:=⟨_,rfl⟩
  obtain ⟨th,hth⟩:∃th,(lookG x M.rs).isSome=th:=⟨_,rfl⟩
  rw [hpt,hth] at hlr
  have HPT:=Lib.hid hpt
  have HTH:=Lib.hid hth
  clear hpt hth
  obtain ⟨L,hL⟩:∃L,M.pl.low x=L:=⟨_,rfl⟩
  rw [hL] at HLOW hlow
  have HB0:=Lib.hid (show M.pl.begin_ x=if cmpB (L.next M.me) L≤0 then M.pl else match M.pl.promise x (L.next M.me) with
      | none=>M.pl
      | some t=>((({t with rs:=putG x ⟨L.next M.me,[],false,[],[],0⟩ t.rs} :Site).others (Site.asks ⟨L.next M.me,[],false,[],[],0⟩ x) M.n).send
          (({t with rs:=putG x ⟨L.next M.me,[],false,[],[],0⟩ t.rs} :Site).others (Site.asks ⟨L.next M.me,[],false,[],[],0⟩ x) M.n).me
          ((({t with rs:=putG x ⟨L.next M.me,[],false,[],[],0⟩ t.rs} :Site).others (Site.asks ⟨L.next M.me,[],false,[],[],0⟩ x) M.n).answer x (L.next M.me))) by
    unfold Site.begin_
    rw [hL];rfl)
  obtain ⟨R,hR⟩:∃R,M.pl.begin_ x=R:=⟨_,rfl⟩
  rw [hR] at HB0 ⊢
  have hst:(M.sta x).pl=M.pl.stat x:=SiteV.sta_pl M x
  clear hR hL
  rw [SiteV.ptr]
  simp only [Sta.val] at hlk
  have hfld:∀(w:World) (r s:Int) (so:Bool) (ar as_:Int) (A:Option Addr) (n c:Nat),(Instr.field 37 (.agg #[.int .i64 r,.int .i64 s,.bool so,.int .i64 ar,.int .i64 as_,.slice A n c]) 0).run Tryz.prog w= .ok (.agg #[.int .i64 r,.int .i64 s]) w:=fun _ _ _ _ _ _ _ _ _=>by kernel_rfl
  obtain ⟨P,hP⟩:∃P,(M.sta x).p=P:=⟨_,rfl⟩
  rw [hP] at hlk hB HLOW eW
  go_enter Tryz.func98,Tryz.ntmps98
  repeat' (first|go_values|go_skip|go_guarded|go_step|go_upon|(simp only [];go_at_K))
  obtain ⟨D,hD⟩:∃D,(match lookG x M.rs with | some r=>decide (0 < cmpB r.bal P) | none=>false)=D:=⟨_,rfl⟩
  have HD:=Lib.hid hD
  clear hD
  go_cut [36] from 27 (fun s36 wc=>s36= .bool D∧Upd [] [] W wc)
  case first=>
    cases hq:lookG x M.rs with
    | none=>
      simp only [hq,Option.map_none,Option.getD_none,Option.isSome_none] at HD HPT HTH
      obtain rfl:=HPT.out
      obtain rfl:=HTH.out
      have hDf:=HD.out
      subst hDf
      refine quiet_gu (by kernel_rfl) (by kernel_rfl) ?_
      repeat (go_big_quiet_step (fail))
      refine wpQuiet_nil ?_
      rintro _ ⟨p,rfl⟩
      repeat' (first|go_values|go_skip|go_guarded|go_step|go_upon|(simp only [];go_at_K))
      go_meet
      exact ⟨rfl,p.u⟩
    | some r=>
      simp only [hq,Option.map_some,Option.getD_some,Option.isSome_some] at HD HPT HTH
      obtain rfl:=HPT.out
      obtain rfl:=HTH.out
      have hDf:=HD.out
      subst hDf
      rw [RnV.ptr]
      have hRr:=h1.rds _ (lookG_some hq)
      have c0:∀p:GU W,p.w.cell? ⟨r.g,0,none⟩=some (.int .i64 r.bal.r):=fun p=>p.u.cell (hRr.blk.cell 0) (by simp)
      have c1:∀p:GU W,p.w.cell? ⟨r.g,1,none⟩=some (.int .i64 r.bal.s):=fun p=>p.u.cell (hRr.blk.cell 1) (by simp)
      have d0:∀p:GU W,p.w.cell? ⟨H,0,none⟩=some (.int .i64 P.r):=fun p=>p.u.cell (hB.cell 0) (by simp)
      have d1:∀p:GU W,p.w.cell? ⟨H,1,none⟩=some (.int .i64 P.s):=fun p=>p.u.cell (hB.cell 1) (by simp)
      have CW:∀p:GU W,Calls Tryz.prog 164 #[.agg #[.int .i64 r.bal.r,.int .i64 r.bal.s],.agg #[.int .i64 P.r,.int .i64 P.s]] p.w fun e w'=>e= .returned (.int .i64 (cmpB r.bal P))∧∃q:GU W,w'=q.w:=
        fun p=>p.call (ballotCompare _ r.bal P)
      refine quiet_gu (by kernel_rfl) (by kernel_rfl) ?_
      repeat (go_big_quiet_step (exact CW _))
      refine wpQuiet_nil ?_
      rintro _ ⟨p,rfl⟩
      repeat' (first|go_values|go_skip|go_guarded|go_step|go_upon|(simp only [];go_at_K))
      go_meet
      exact ⟨rfl,p.u⟩
  case rest=>
    obtain ⟨rfl,UD⟩:=hcut
    have hBc:=hB.upd UD (by simp)
    have h2:=h1.upd0 UD
    go_upto_if 36 with fail
    go_cut [4] from 27 (fun s4 wc=>s4= .pointer (some ⟨H,0,none⟩)∧Blk wc H 30 #[.int .i64 L.r,.int .i64 L.s]∧Upd [] [] w wc)
    case first=>
      cases D with
      | false=>
        have hLP:L=P:=by
          have h1:=HLOW.out
          have h2:=HD.out
          cases hq:lookG x M.rs with
          | none=>simp only [hq] at h1;exact h1
          | some r=>
            simp only [hq,decide_eq_false_iff_not] at h1 h2
            rw [if_neg h2] at h1
            exact h1
        have KEY:=Lib.hid (show Blk wc H 30 #[.int .i64 L.r,.int .i64 L.s] by rw [hLP];exact hBc)
        clear hLP hBc
        repeat' (first|go_values|go_skip|go_guarded|go_step|go_upon|(simp only [];go_at_K))
        go_meet
        exact ⟨rfl,KEY.out,U0'.trans UD⟩
      | true=>
        cases hq:lookG x M.rs with
        | none=>have h2:=HD.out;simp only [hq] at h2;cases h2
        | some r=>
          have h1':=HLOW.out
          have h2':=HD.out
          have h3':=HPT.out
          simp only [hq,decide_eq_true_eq] at h1' h2' h3'
          rw [if_pos h2'] at h1'
          simp only [Option.map_some,Option.getD_some] at h3'
          subst h1'
          subst h3'
          have hRr:=h2.rds _ (lookG_some hq)
          have c0:wc.cell? ⟨r.g,0,none⟩=some (.int .i64 r.bal.r):=hRr.blk.cell 0
          have c1:wc.cell? ⟨r.g,1,none⟩=some (.int .i64 r.bal.s):=hRr.blk.cell 1
          obtain ⟨⟨d0,d1⟩,f0,f1⟩:=hBc.c2
          have KEY:=Lib.hid (blk_set2 hBc (.int .i64 r.bal.r) (.int .i64 r.bal.s))
          have UK:=Lib.hid ((U0'.trans UD).own (g:=H) (by omega) (upd_set2 wc H (.int .i64 r.bal.r) (.int .i64 r.bal.s)))
          rw [RnV.ptr]
          clear hBc hRr h2' hq
          repeat' (first|go_values|go_skip|go_guarded|go_step|go_upon|(simp only [];go_at_K))
          go_meet
          exact ⟨rfl,KEY.out,UK.out⟩
    case rest=>
      obtain ⟨rfl,hBL,UL⟩:=hcut
      clear hBc h2 UD h1 hB U0 U0' hlr hlk q5 q8
      have h3:=h.upd0 UL
      obtain ⟨b,hb⟩:∃b,L.next M.me=b:=⟨_,rfl⟩
      rw [hb] at HB0
      have HBN:=Lib.hid hb
      have CN:∀Wx:World,Calls Tryz.prog 165 #[.agg #[.int .i64 L.r,.int .i64 L.s],.int .i64 (M.me:Int)] Wx fun e w'=>e= .returned (.agg #[.int .i64 b.r,.int .i64 b.s])∧Upd [] [] Wx w':=fun Wx=>by
        have:=ballotNext Wx L M.me
        rw [hb] at this;exact this
      clear hb
      obtain ⟨Z,hZ⟩:∃Z:World,wc.alloc (.cells #[.int .i64 0,.int .i64 0] 30)=Z:=⟨_,rfl⟩
      have UZ:Upd [] [] wc Z:=by rw [←hZ];exact (Upd.refl [] wc).alloc _
      have BZ:Blk Z wc.heap.size 30 #[.int .i64 0,.int .i64 0]:=by rw [←hZ];exact Blk.new _ _ _
      have hHs:H < wc.heap.size:=hBL.lt
      have hBZ:=hBL.upd UZ (by simp)
      obtain ⟨⟨p0,p1⟩,-⟩:=hBL.drew.c2
      obtain ⟨⟨r0,r1⟩,-⟩:=hBZ.drew.c2
      have q0:wc.drew.cell? ⟨M.gs,0,none⟩=some (.int .i64 (M.me:Int)):=h3.blk.cell 0
      have s0:Z.drew.cell? ⟨M.gs,0,none⟩=some (.int .i64 (M.me:Int)):=(h3.upd0 UZ).blk.cell 0
      have ULs:=UL.size
      go_upto_region 4 with fail
      go_cut [7] from 41 (fun s7 wd=>∃G:Nat,s7= .pointer (some ⟨G,0,none⟩)∧Blk wd G 30 #[.int .i64 b.r,.int .i64 b.s]∧Blk wd H 30 #[.int .i64 L.r,.int .i64 L.s]∧w.heap.size≤G∧Upd [] [] w wd)
      case first=>
        go_region_with (first
          | (go_at_call 165;(with_reducible refine (CN wc.drew).mono ?_);rintro e W1 ⟨rfl,hu⟩)
          | (go_at_call 165;(try rw [hZ]);(with_reducible refine (CN Z.drew).mono ?_);rintro e W1 ⟨rfl,hu⟩;have K:=BZ.drew.upd hu (by simp);obtain ⟨⟨k0,k1⟩,e0,e1⟩:=K.c2)
          | (rw [hZ]))
        all_goals (repeat' ((fail_if_success (with_reducible refine stop_append rfl ?_));first | go_values | go_skip | go_guarded | go_step | go_upon | (simp only [];go_at_K)))
        all_goals go_meet
        all_goals first
          | (have KK:=blk_set2 K (.int .i64 b.r) (.int .i64 b.s)
             have u6:=upd_set2 W1 wc.heap.size (.int .i64 b.r) (.int .i64 b.s)
             have KL:=(hBZ.drew.upd hu (by simp)).upd u6 (by simp only [List.mem_singleton];omega)
             exact ⟨wc.heap.size,rfl,KK,KL,by omega,(UL.trans (((UZ.drew.trans hu).own (Nat.le_refl _) u6).gives (b':=[]) (by simp)))⟩)
          | (have KK:=Blk.new W1 30 #[.int .i64 b.r,.int .i64 b.s]
             have hs6:wc.heap.size≤W1.heap.size:=hu.size
             exact ⟨W1.heap.size,rfl,KK,(hBL.drew.upd hu (by simp)).alloc _,by omega,UL.trans (((Upd.refl [] wc).drew.trans hu).alloc _)⟩)
      case rest=>
        obtain ⟨G,rfl,hBG,hBL2,hGs,UG⟩:=hcut
        clear hBL CN UZ BZ hBZ p0 p1 r0 r1 q0 s0 hZ UL h3
        have h4:=h.upd0 UG
        have hfl:=h.lt
        have hbm:b.may 7=true:=by rw [←HBN.out];exact Bl.next_may hlow (by have:=h.ok.me;have h7:=h.ok.n7;have e1:M.pl.me=M.me:=rfl;have e2:M.pl.n=M.n:=rfl;omega)
        obtain ⟨⟨g0,g1⟩,-⟩:=hBG.c2
        obtain ⟨⟨l0,l1⟩,-⟩:=hBL2.c2
        have CC:=ballotCompare wc b L
        simp only [Bl.val] at CC
        repeat' (first|go_values|go_skip|go_guarded|go_step|go_upon|(simp only [];go_at_K))
        ((with_reducible refine CC.mono ?_);rintro e w5 ⟨rfl,hu5⟩)
        have U5:=UG.trans hu5
        have h5:=h4.upd0 hu5
        have K5:=hBG.upd hu5 (by simp)
        clear CC g0 g1 l0 l1 h4 hBG hBL2 UG
        obtain ⟨⟨g0,g1⟩,-⟩:=K5.c2
        by_cases hc:cmpB b L≤0
        · have dc:decide (cmpB b L≤0)=true:=decide_eq_true hc
          have hRM:R=M.pl:=by rw [HB0.out,if_pos hc]
          have KEY:=Lib.hid (show Gone w w5 M R from ⟨M,h5,hRM.symm,rfl,U5.up M.fp⟩)
          clear hRM h5 U5
          repeat' (first|go_values|go_skip|go_guarded|go_step|go_upon|(simp only [];go_at_K))
          exact bodyPost_ret (v:=.tuple #[]) (results_none rfl _ _ _) rfl ⟨rfl,KEY.out⟩
        · have dc:decide (cmpB b L≤0)=false:=decide_eq_false hc
          have C6:=sitePromise w5 M h5 x hx b hbm
          simp only [SiteV.ptr,Bl.val] at C6
          have hHG:G∉M.fp:=fun hk=>by have:=hfl G hk;omega
          cases hacc:M.pl.promise x b with
          | none=>
            rw [hacc] at C6
            have HRM:=Lib.hid (show R=M.pl by rw [HB0.out,if_neg hc,hacc])
            repeat' (first|go_values|go_skip|go_guarded|go_step|go_upon|(simp only [];go_at_K))
            ((with_reducible refine C6.mono ?_);rintro e w6 ⟨rfl,M1,H6,hp6,hg6,-,U6⟩)
            have KEY:=Lib.hid (show Gone w w6 M R from ⟨M1,H6,hp6.trans HRM.out.symm,hg6,(U5.up M.fp).trans U6⟩)
            clear C6 H6 U6 U5 h5
            repeat' (first|go_values|go_skip|go_guarded|go_step|go_upon|(simp only [];go_at_K))
            exact bodyPost_ret (v:=.tuple #[]) (results_none rfl _ _ _) rfl ⟨rfl,KEY.out⟩
          | some t=>
            rw [hacc] at C6
            have hRT:=HB0.out
            rw [if_neg hc,hacc] at hRT
            have HRT:=Lib.hid hRT
            obtain ⟨tm,tn,th',trs,tst⟩:=Site.promise_fr hacc
            clear hRT hacc hc
            repeat' (first|go_values|go_skip|go_guarded|go_step|go_upon|(simp only [];go_at_K))
            ((with_reducible refine C6.mono ?_);rintro e w6 ⟨rfl,M1,H6,hp6,hg6,hr6,U6⟩)
            replace hp6:M1.pl=t:=hp6
            have K6:=K5.upd U6 hHG
            have hG1:=U6.notin hHG K5.lt
            have n1:M1.n=M.n:=(congrArg Site.n hp6).trans tn
            have U60:=(U5.up M.fp).trans U6
            have T6:BytS w6 ⟨none,0,0,[]⟩:=⟨RdB.nil _ _,by simp [ablk]⟩
            clear C6 g0 g1 K5 U6 U5 h5
            obtain ⟨⟨g0,g1⟩,-⟩:=K6.c2
            obtain ⟨W8,G2,eW8,hG2,hBR,U8⟩:=boxes1 w6 132 #[.int .i64 b.r,.int .i64 b.s,.slice none 0 0,.bool false,.slice none 0 0,.slice none 0 0,.int .i64 0]
            have R8:RnS W8 ⟨G2,b,none,0,[],false,⟨none,0,0,[]⟩,none,0,[],0⟩:=⟨hBR,Own.nil _ _ _,Own.nil _ _ _⟩
            have H8:=H6.upd0 U8
            obtain ⟨w9,hrun9,hm9,u9⟩:=H8.rnd.store Tryz.underlying3 Tryz.underlying119 (by rw [mapG_len];have:=H8.rsLen;unfold maxLen;omega) (x:=x) hwf (RnV.ptr ⟨G2,b,none,0,[],false,⟨none,0,0,[]⟩,none,0,[],0⟩)
            rw [putK_G,←putG_map] at hm9
            obtain ⟨H9,V9⟩:=H6.newR (x:=x) hx ⟨G2,b,none,0,[],false,⟨none,0,0,[]⟩,none,0,[],0⟩ (w1:=W8) (by simpa [RnV.fp,ablk] using U8) R8 u9 hm9 (fun z hz=>by
              simp only [RnV.bytes,List.map_nil,List.mem_singleton] at hz
              subst hz
              exact ⟨T6,by simp [ablk]⟩) ⟨by simp [RnV.pl],hbm,by simp [RnV.pl]⟩
            have q8:W8.cell? ⟨M.gs,8,none⟩=some (.map (some M1.br)):=by rw [←hg6];exact H8.blk.cell 8
            simp only [RnV.ptr] at hrun9
            obtain ⟨M3,hM3⟩:∃M3:SiteV,{M1 with rs:=putG x ⟨G2,b,none,0,[],false,⟨none,0,0,[]⟩,none,0,[],0⟩ M1.rs} =M3:=⟨_,rfl⟩
            rw [hM3] at H9 V9
            have hp3:M3.pl= {t with rs:=putG x ⟨b,[],false,[],[],0⟩ t.rs}:=by
              rw [←hM3,show ({M1 with rs:=putG x ⟨G2,b,none,0,[],false,⟨none,0,0,[]⟩,none,0,[],0⟩ M1.rs} :SiteV).pl= {M1.pl with rs:=putG x (RnV.pl ⟨G2,b,none,0,[],false,⟨none,0,0,[]⟩,none,0,[],0⟩) M1.pl.rs} from by unfold SiteV.pl;simp only [putG_map],hp6]
              rfl
            have hg3:M3.gs=M.gs:=by rw [←hM3];exact hg6
            have hmem:(x,(⟨G2,b,none,0,[],false,⟨none,0,0,[]⟩,none,0,[],0⟩:RnV))∈M3.rs:=by rw [←hM3];exact mem_putG.2 (.inl rfl)
            have n3:M3.n=M.n:=by rw [←hM3];exact n1
            have hh3:M3.held.length≤900000000:=by have:=congrArg (fun z:Site=>z.held.length) hp3;simp only [SiteV.held_len,th'] at this;omega
            have K9:=K6.upd V9 hG1
            have hG3:=V9.notin hG1 K6.lt
            have U9:=U60.trans V9
            have C10:=siteAsks w9 _ (H9.rds _ hmem) x
            rw [show askV ⟨G2,b,none,0,[],false,⟨none,0,0,[]⟩,none,0,[],0⟩ x=⟨3,0,0,x,b.r,b.s,0,0,false,none,0,0,[]⟩ from by simp [askV]] at C10
            have hms:Mv.ms ⟨3,0,0,x,b.r,b.s,0,0,false,none,0,0,[]⟩=Site.asks ⟨b,[],false,[],[],0⟩ x:=by simp [Site.asks,Mv.ms]
            have hfit3:(Mv.ms ⟨3,0,0,x,b.r,b.s,0,0,false,none,0,0,[]⟩).Fit:=by rw [hms];exact Site.asks_fit hx hbm (by simp)
            have C11:=fun (w10:World) (hu:Upd [] [] w9 w10)=>siteOthers w10 M3 (H9.upd0 hu) ⟨3,0,0,x,b.r,b.s,0,0,false,none,0,0,[]⟩ hfit3 (RdB.nil _ _) (by simp [ablk]) hh3
            simp only [hms,hp3,n3] at C11
            simp only [SiteV.ptr,hg3,RnV.ptr,Mv.val_eq] at C10 C11
            clear hM3 R8 hBR H8 hm9 u9 T6 hmem H6 K6 U60 V9 hfit3 hms
            repeat' (first|go_values|go_skip|go_guarded|go_step|go_upon|(simp only [];go_at_K))
            ((with_reducible refine C10.mono ?_);rintro e w10 ⟨rfl,hu10⟩)
            repeat' (first|go_values|go_skip|go_guarded|go_step|go_upon|(simp only [];go_at_K))
            ((with_reducible refine (C11 w10 hu10).mono ?_);rintro e w11 ⟨rfl,M4,h11,p11,g11,-,U11⟩)
            have K11:=(K9.upd hu10 (by simp)).upd U11 hG3
            have g4:M4.gs=M.gs:=g11.trans hg3
            have st4:M4.pl.stat x= {M.pl.stat x with p:=b}:=by rw [p11,Site.others_eq];exact tst
            have me4:M4.me=M.me:=by
              have:=congrArg Site.me p11
              rw [(Site.others_me _ _).1] at this
              exact this.trans tm
            have hh4:M4.held.length≤1000000000:=by
              have h1:M4.held.length=M.held.length + (({t with rs:=putG x ⟨b,[],false,[],[],0⟩ t.rs} :Site).tell (Site.asks ⟨b,[],false,[],[],0⟩ x) M.n).length:=by
                rw [←SiteV.held_len,p11,Site.others_eq]
                show (t.held ++ _).length=_
                rw [List.length_append,th',SiteV.held_len]
              have h7:=h.ok.n7
              have e2:M.pl.n=M.n:=rfl
              have:=Site.tell_len ({t with rs:=putG x ⟨b,[],false,[],[],0⟩ t.rs} :Site) (Site.asks ⟨b,[],false,[],[],0⟩ x) M.n
              omega
            have hfit4:(M4.ansV x b).ms.Fit:=by rw [SiteV.ansV_ms];exact Site.answer_fit h11.ok hx hbm (by rw [st4];exact hfit)
            have C12:=siteAnswer w11.drew M4 h11.drew x hwf b
            have C13:=fun (w12:World) (hu:Upd [] [] w11.drew w12)=>siteSend w12 M4 (h11.drew.upd0 hu) (M.me:Int) (M4.ansV x b) hfit4 (by have:=h.ok.me;have h7:=h.ok.n7;have e1:M.pl.me=M.me:=rfl;have e2:M.pl.n=M.n:=rfl;omega) (((h11.drew.upd0 hu).sta_in x).1.rd) hh4
            have z0:w11.drew.cell? ⟨M.gs,0,none⟩=some (.int .i64 (M.me:Int)):=by rw [←g4,←me4];exact h11.blk.cell 0
            have U13:=((U9.trans (hu10.up M3.fp)).trans U11).drew
            rw [SiteV.ansV_ms] at C13
            obtain ⟨av,hav⟩:∃z,(M4.ansV x b).val=z:=⟨_,rfl⟩
            rw [hav] at C12
            simp only [hav,SiteV.ptr,g4] at C13
            simp only [SiteV.ptr,g4,Bl.val] at C12
            obtain ⟨⟨i0,i1⟩,-⟩:=K11.drew.c2
            have me5:M4.pl.me=M.me:=me4
            have hsend:=p11
            have HRF:=Lib.hid (show R=M4.pl.send M.me (M4.pl.answer x b) by
              rw [HRT.out]
              show Site.send (Site.others _ _ _) _ _=_
              rw [←p11,me5])
            clear hav hfit4 hsend C10 C11 h11 K9 K11 H9 U11 hu10 U9 st4 p11 hp3 h hlow
            repeat' (first|go_values|go_skip|go_guarded|go_step|go_upon|(simp only [];go_at_K))
            go_region_with (first
              | (go_at_call 167;(with_reducible refine C12.mono ?_);rintro e w12 ⟨rfl,u12⟩;have z1:=u12.cell z0 (by simp);have i2:=u12.cell i0 (by simp);have i3:=u12.cell i1 (by simp))
              | (go_at_call 64;(with_reducible refine (C13 w12 u12).mono ?_);rintro e w13 ⟨rfl,M5,h13,hp13,hg13,-,u13⟩))
            all_goals (repeat' ((fail_if_success (with_reducible refine stop_append rfl ?_));first | go_values | go_skip | go_guarded | go_step | go_upon | (simp only [];go_at_K)))
            all_goals exact bodyPost_end (results_none rfl _ _ _) rfl ⟨rfl,M5,h13,hp13.trans HRF.out.symm,hg13.trans g4,(U13.trans (u12.up M4.fp)).trans u13⟩
end Go.Proofs.YtijhlbeipglieaaGreat
