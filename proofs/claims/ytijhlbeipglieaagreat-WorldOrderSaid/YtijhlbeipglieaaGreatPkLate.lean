/- Merged: PlainLate, Timer5, HasI, SiteLa, SiteTi. -/
import Derived.Deep.CutRange
import Derived.Test.YtijhlbeipglieaaGreatPkAgain
import Derived.Test.YtijhlbeipglieaaGreatPkHandB
set_option linter.all false
set_option maxRecDepth 100000
set_option maxHeartbeats 4000000
namespace Agio
open Go Go.Proofs.YtijhlbeipglieaaGreat
namespace Site
variable (s:Site)
def lateN (i:Nat):List Int:=((List.range' s.front i).map fun (i:Nat)=>(i:Int)).filter s.due
theorem lateN_zero:s.lateN 0= []:=rfl
theorem lateN_succ (i:Nat):s.lateN (i + 1)=s.lateN i ++ (if s.due ((s.front:Int) + i) then [(s.front:Int) + i] else []):=by
 unfold lateN
 rw [List.range'_concat,List.map_append,List.filter_append]
 congr 1
 simp only [Nat.one_mul,List.map_cons,List.map_nil,List.filter_cons,List.filter_nil,Int.natCast_add]
theorem lateN_add (i m:Nat):∃L,s.lateN (i + m)=s.lateN i ++ L:=by
 induction m with
 | zero=>exact ⟨[],by simp⟩
 | succ m ih=>
  obtain ⟨L,hL⟩:=ih
  refine ⟨L ++ (if s.due ((s.front:Int) + ((i + m:Nat):Int)) then [(s.front:Int) + ((i + m:Nat):Int)] else []),?_⟩
  rw [←Nat.add_assoc,lateN_succ,hL,List.append_assoc]
theorem late_end {top:Int} {i:Nat} (h:i=top.toNat - s.front) (hl:(s.lateN i).length≤8):s.late top=s.lateN i:=by
 unfold late
 rw [←h]
 exact List.take_of_length_le hl
theorem late_full {top:Int} {i:Nat} (h:i≤top.toNat - s.front) (hl:(s.lateN i).length=8):s.late top=s.lateN i:=by
 obtain ⟨L,hL⟩:=s.lateN_add i (top.toNat - s.front - i)
 rw [Nat.add_sub_cancel' h] at hL
 show (s.lateN (top.toNat - s.front)).take 8=_
 rw [hL,←hl,List.take_left]
end Site
end Agio
namespace Go.Proofs.YtijhlbeipglieaaGreat
open Go.RowKit Agio
def suspG (p:Int) (l:List Int) (i:Nat):List Int:=((List.range i).filter fun i=>decide (p < l.getD i 0)).map fun (i:Nat)=>(i:Int)
theorem suspG_step (p:Int) (l:List Int) (i:Nat):suspG p l (i + 1)=suspG p l i ++ (if p < l.getD i 0 then [(i:Int)] else []):=by
 unfold suspG
 rw [List.range_succ,List.filter_append,List.map_append]
 congr 1
 rw [List.filter_cons]
 by_cases h:p < l.getD i 0
 ·rw [if_pos (decide_eq_true h),if_pos h];rfl
 ·rw [if_neg (by rw [decide_eq_false h];simp),if_neg h];rfl
theorem suspG_len (p:Int) (l:List Int) (i:Nat):(suspG p l i).length≤i:=by
 unfold suspG
 rw [List.length_map]
 exact Nat.le_trans (List.length_filter_le _ _) (by simp)
theorem infoI:(Tryz.prog.info? 3).map (fun i=>(i.zero,i.size,i.bytes))=some (some (.int .i64 0),1,8):=by kernel_rfl
theorem timerSuspects (w:World) (g:Nat) (me n:Nat) (p:Int) (l:List Int) (h:WtS w g me n p l) (hn:n≤7) :
  Calls Tryz.prog 160 #[.pointer (some ⟨g,0,none⟩)] w fun e w'=>∃A c,e= .returned (.slice A (suspG p l n).length c)∧Agio.Own 3 1 w' A (suspG p l n).length c ((suspG p l n).map (Value.int .i64))∧Upd [] (ablk A) w w':=by
 have q1:w.cell? ⟨g,1,none⟩=some (.int .i64 (n:Int)):=h.1.cell 1
 have q2:w.cell? ⟨g,2,none⟩=some (.int .i64 p):=h.1.cell 2
 have hl:=h.2
 go_enter Tryz.func160,Tryz.ntmps160
 repeat' (first|go_values|go_skip|go_guarded|go_step|go_upon|(simp only [];go_at_K))
 go_loopw [3,11] (fun v3 v11 wr=>∃(i:Nat) (A:Option Addr) (c:Nat),i≤n∧v11= .int .i64 (i:Int)∧v3= .slice A (suspG p l i).length c∧Agio.Own 3 1 wr A (suspG p l i).length c ((suspG p l i).map (Value.int .i64))∧Upd [] (ablk A) w wr) (fun _ v11 _=>n - (intOf v11).toNat)
 case atStart=>exact ⟨0,none,0,by omega,rfl,rfl,Own.nil _ _ _,Upd.refl _ _⟩
 case round=>
  obtain ⟨i,A,c,hi,rfl,rfl,ho,U⟩:=hrel
  by_cases hlt:i < n
  ·have hil:(i:Int) < (n:Int):=by omega
   have hi7:(i:Int) < 7:=by omega
   have hw1:IntKind.i64.wrap ((i:Int) + 1)=(i:Int) + 1:=by rw [IntKind.wrap_i64];omega
   have hat:l[i]'(by omega)=l.getD i 0:=by rw [List.getD_eq_getElem?_getD,List.getElem?_eq_getElem (by omega)];rfl
   have hT:=suspG_step p l i
   have hln:=suspG_len p l i
   have hcc:w.cell? ⟨g,3 + i,none⟩=some (.int .i64 (l.getD i 0)):=by rw [h.cell (i:=i) (by omega),hat]
   have hc:=fun N=>(U.drewN N).cell hcc (by simp)
   have h2:=fun N=>(U.drewN N).cell q2 (by simp)
   have HT:=Lib.hid hT
   obtain ⟨y,hy⟩:∃y,l.getD i 0=y:=⟨_,rfl⟩
   rw [hy] at HT
   simp only [hy] at hc
   clear hy hat hcc hT h
   obtain ⟨X,hX⟩:∃X,suspG p l i=X:=⟨_,rfl⟩
   rw [hX] at ho HT hln ⊢
   clear hX
   by_cases hs:p < y
   ·have d1:decide (p < y)=true:=decide_eq_true hs
    have hF:suspG p l (i + 1)=X ++ [(i:Int)]:=by rw [HT.out,if_pos hs]
    have HF:=Lib.hid hF
    have ho2:=fun N=>ho.drewN N
    clear hF HT
    repeat' (first|go_values|go_skip|go_guarded|go_step|go_upon|(simp only [];go_at_K))
    go_quiet (fail)
    have ho3:=ho2 nq
    have U2:=U.drewN nq
    repeat' ((fail_if_success (with_reducible refine stop_append rfl ?_));first|go_values|go_skip|go_guarded|go_step|go_upon|(simp only [];go_at_K))
    refine wpList_push rfl _ _ 168 rfl 3 Tryz.underlying168 infoI rfl (by decide) ho3 rfl (wr.drewN nq).heap.size rfl rfl rfl rfl (by unfold maxLen;omega) (by omega) ?_
    intro A3 c3 w3 ho4 hu4
    have U3:=U2.trans hu4
    clear ho ho2 ho3 U U2 hu4
    repeat' (first|go_values|go_skip|go_guarded|go_step|go_upon|(simp only [];go_at_K))
    exact ⟨⟨i + 1,A3,c3,by omega,by simp,by rw [HF.out];simp,by rw [HF.out];simpa using ho4,U3⟩,by simp [intOf];omega⟩
   ·have d1:decide (p < y)=false:=decide_eq_false hs
    have hF:suspG p l (i + 1)=X:=by rw [HT.out,if_neg hs,List.append_nil]
    have HF:=Lib.hid hF
    clear hF HT
    repeat' (first|go_values|go_skip|go_guarded|go_step|go_upon|(simp only [];go_at_K))
    go_quiet (fail)
    repeat' (first|go_values|go_skip|go_guarded|go_step|go_upon|(simp only [];go_at_K))
    exact ⟨⟨i + 1,A,c,by omega,by simp,by rw [HF.out],by rw [HF.out];exact ho.drewN _,U.drewN _⟩,by simp [intOf];omega⟩
  ·obtain rfl:i=n:=by omega
   have hil:¬ ((i:Int) < (i:Int)):=by omega
   repeat' (first|go_values|go_skip|go_guarded|go_step|go_upon|(simp only [];go_at_K))
   go_ret
   exact ⟨A,c,rfl,ho,U⟩
end Go.Proofs.YtijhlbeipglieaaGreat
namespace Go.Proofs.YtijhlbeipglieaaGreat
open Go.RowKit Agio
def idxG (x:Int):List Int→Nat→Int
 | [],_=>-1
 | y :: l,i=>if x=y then (i:Int) else idxG x l (i + 1)
theorem idxG_has (x:Int):∀(l:List Int) (i:Nat),decide (0≤idxG x l i)=l.contains x
 | [],i=>by simp [idxG]
 | y :: l,i=>by
  unfold idxG
  by_cases h:x=y
  ·subst h;simp
  ·rw [if_neg h,idxG_has x l (i + 1),List.contains_cons]
   rw [show (x == y)=false from beq_false_of_ne h,Bool.false_or]
theorem slicesIndex (w:World) (A:Option Addr) (c:Nat) (l:List Int) (x:Int) (h:Rd w 1 A l.length (l.map (Value.int .i64))) (hl:l.length≤1000000) :
  Calls Tryz.prog 228 #[.slice A l.length c,.int .i64 x] w fun e w'=>e= .returned (.int .i64 (idxG x l 0))∧w=w':=by
 go_enter Tryz.func228,Tryz.ntmps228
 repeat' (first|go_values|go_skip|go_guarded|go_step|go_upon|(simp only [];go_at_K))
 go_loopw [8] (fun v8 wr=>∃(i:Nat),i≤l.length∧v8= .int .i64 (i:Int)∧idxG x l 0=idxG x (l.drop i) i∧wr=w) (fun v8 _=>l.length - (intOf v8).toNat)
 case atStart=>exact ⟨0,by omega,rfl,by simp,rfl⟩
 case round=>
  obtain ⟨i,hi,rfl,hx,rfl⟩:=hrel
  by_cases hlt:i < l.length
  ·have hil:(i:Int) < (l.length:Int):=by omega
   have hw1:IntKind.i64.wrap ((i:Int) + 1)=(i:Int) + 1:=by rw [IntKind.wrap_i64];omega
   obtain ⟨ad,u,hA,hu,hc⟩:=h.at_ hlt
   subst hA
   rw [List.getElem?_map,List.getElem?_eq_getElem hlt,Option.map_some,Option.some.injEq] at hu
   subst hu
   rw [List.drop_eq_getElem_cons hlt] at hx
   conv at hx=>rhs;unfold idxG
   generalize l[i]=y at *
   by_cases he:x=y
   ·have d1:(x == y)=true:=beq_iff_eq.2 he
    rw [if_pos he] at hx
    have HX:=Lib.hid hx
    clear hx he
    repeat' (first|go_values|go_skip|go_guarded|go_step|go_upon|(simp only [];go_at_K))
    go_ret
    rw [HX.out]
    exact ⟨rfl,rfl⟩
   ·have d1:(x == y)=false:=beq_false_of_ne he
    rw [if_neg he] at hx
    have HX:=Lib.hid hx
    clear hx he
    repeat' (first|go_values|go_skip|go_guarded|go_step|go_upon|(simp only [];go_at_K))
    exact ⟨⟨i + 1,by omega,by simp,HX.out,trivial⟩,by simp [intOf];omega⟩
  ·obtain rfl:i=l.length:=by omega
   have hil:¬ ((l.length:Int) < (l.length:Int)):=by omega
   have HX:=Lib.hid (show idxG x l 0= -1 by rw [hx,List.drop_length];rfl)
   clear hx
   repeat' (first|go_values|go_skip|go_guarded|go_step|go_upon|(simp only [];go_at_K))
   go_ret
   rw [HX.out]
   exact ⟨rfl,rfl⟩
theorem slicesContains (w:World) (A:Option Addr) (c:Nat) (l:List Int) (x:Int) (h:Rd w 1 A l.length (l.map (Value.int .i64))) (hl:l.length≤1000000) :
  Calls Tryz.prog 163 #[.slice A l.length c,.int .i64 x] w fun e w'=>e= .returned (.bool (l.contains x))∧w=w':=by
 have C:=slicesIndex w A c l x h hl
 have H:=Lib.hid (idxG_has x l 0)
 obtain ⟨k,hk⟩:∃k,idxG x l 0=k:=⟨_,rfl⟩
 rw [hk] at C H
 go_enter Tryz.func163,Tryz.ntmps163
 repeat' (first|go_values|go_skip|go_guarded|go_step|go_upon|(simp only [];go_at_K))
 ((with_reducible refine C.mono ?_);rintro e w1 ⟨rfl,rfl⟩)
 repeat' (first|go_values|go_skip|go_guarded|go_step|go_upon|(simp only [];go_at_K))
 go_ret
 exact ⟨by rw [←H.out];rfl,rfl⟩
end Go.Proofs.YtijhlbeipglieaaGreat
namespace Go.Proofs.YtijhlbeipglieaaGreat
open Go.RowKit Agio Go.Maps
structure Kept (p:Prop):Prop where
 out:p
variable [Ban]
theorem siteLate (w:World) (M:SiteV) (h:SiteS w M) (top:Int) (htop:top≤5000) :
  Calls Tryz.prog 97 #[M.ptr,.int .i64 top] w fun e w'=>∃A c,e= .returned (.slice A (M.pl.late top).length c)∧Agio.Own 3 1 w' A (M.pl.late top).length c ((M.pl.late top).map (Value.int .i64))∧Upd [] (ablk A) w w':=by
 have n7:M.n≤7:=h.ok.n7
 have q10:w.cell? ⟨M.gs,10,none⟩=some (.pointer (some ⟨M.gw,0,none⟩)):=h.blk.cell 10
 have C0:=timerSuspects w M.gw M.me M.n M.pat M.wt h.wat n7
 have hsl:=suspG_len M.pat M.wt M.n
 have HSU:=Lib.hid (show M.pl.suspects=suspG M.pat M.wt M.n from rfl)
 have HLE:=Lib.hid (show M.pl.leads=(leadG M.pat (M.wt.take M.n) 0 == (M.me:Int)) from rfl)
 obtain ⟨su,hsu⟩:∃su,suspG M.pat M.wt M.n=su:=⟨_,rfl⟩
 rw [hsu] at C0 hsl HSU
 rw [SiteV.ptr]
 clear hsu
 go_enter Tryz.func97,Tryz.ntmps97
 repeat' (first|go_values|go_skip|go_guarded|go_step|go_upon|(simp only [];go_at_K))
 ((with_reducible refine C0.mono ?_);rintro e w1 ⟨As,cs,rfl,hos,hu1⟩)
 have h1:=h.upd0 hu1
 have U1:=hu1.gives (b':=[]) (by simp)
 clear C0 q10
 obtain ⟨wa,hwa⟩:∃x,w1=x:=⟨_,rfl⟩
 rw [hwa] at h1 U1 hos ⊢
 clear hwa hu1
 have c0:∀p:GU wa,p.w.cell? ⟨M.gs,0,none⟩=some (.int .i64 (M.me:Int)):=fun p=>(h1.upd0 p.u).blk.cell 0
 have c10:∀p:GU wa,p.w.cell? ⟨M.gs,10,none⟩=some (.pointer (some ⟨M.gw,0,none⟩)):=fun p=>(h1.upd0 p.u).blk.cell 10
 have CL:∀p:GU wa,Calls Tryz.prog 161 #[.pointer (some ⟨M.gw,0,none⟩)] p.w fun e w'=>e= .returned (.int .i64 (leadG M.pat (M.wt.take M.n) 0))∧∃q:GU wa,w'=q.w:=
  fun p=>p.call (timerLeader p.w M.gw M.me M.n M.pat M.wt (h1.upd0 p.u).wat n7)
 obtain ⟨ldr,hldr⟩:∃x,leadG M.pat (M.wt.take M.n) 0=x:=⟨_,rfl⟩
 rw [hldr] at HLE
 simp only [hldr] at CL
 clear hldr
 repeat' ((fail_if_success (with_reducible refine stop_append rfl ?_));first|go_values|go_skip|go_guarded|go_step|go_upon|(simp only [];go_at_K))
 refine quiet_gu (by kernel_rfl) (by kernel_rfl) ?_
 repeat (go_big_quiet_step (exact CL _))
 refine wpQuiet_nil ?_
 rintro _ ⟨p,rfl⟩
 have h2:=h1.upd0 p.u
 have U2:=U1.trans p.u
 have hos2:=hos.upd p.u (by simp)
 obtain ⟨wb,hwb⟩:∃x,p.w=x:=⟨_,rfl⟩
 simp only [hwb] at h2 U2 hos2 ⊢
 clear hwb hos h1 U1 c0 c10 CL
 obtain ⟨ld,hld⟩:∃x,(ldr == (M.me:Int))=x:=⟨_,rfl⟩
 rw [hld] at HLE
 have q7:wb.cell? ⟨M.gs,7,none⟩=some (.pointer (some ⟨M.gl,0,none⟩)):=h2.blk.cell 7
 have CF:=learnFrontier wb M.gl M.bl M.lv M.taken h2.lrn
 rw [←SiteV.front_pl] at CF
 obtain ⟨f,hf⟩:∃f,M.pl.front=f:=⟨_,rfl⟩
 rw [hf] at CF
 rw [hld]
 repeat' (first|go_values|go_skip|go_guarded|go_step|go_upon|(simp only [];go_at_K))
 ((with_reducible refine CF.mono ?_);rintro e w3 ⟨rfl,rfl⟩)
 repeat' (first|go_values|go_skip|go_guarded|go_step|go_upon|(simp only [];go_at_K))
 have HFR:=Lib.hid hf
 clear CF q7 hf hld
 go_loopw [7,8] (fun v7 v8 wr=>Kept (∃(i:Nat) (A:Option Addr) (c:Nat),(i=0∨(i:Int) + f≤top)∧v8= .int .i64 ((f:Int) + i)∧v7= .slice A (M.pl.lateN i).length c∧(M.pl.lateN i).length≤8∧Agio.Own 3 1 wr A (M.pl.lateN i).length c ((M.pl.lateN i).map (Value.int .i64))∧Upd [] (ablk A) wb wr)) (fun _ v8 _=>(top - intOf v8).toNat)
 case atStart=>exact Kept.mk ⟨0,none,0,.inl rfl,by simp,rfl,by simp [Site.lateN_zero],by simpa [Site.lateN_zero] using Own.nil _ _ _,Upd.refl _ _⟩
 case round=>
  obtain ⟨i,A,c,hi,rfl,rfl,h8,ho,U⟩:=hrel.out
  clear hrel
  have HN:=Lib.hid (M.pl.lateN_succ i)
  rw [HFR.out] at HN
  have HE1:=Lib.hid (fun (e:i=top.toNat - f)=>M.pl.late_end (top:=top) (by rw [HFR.out];exact e) h8)
  have HE2:=Lib.hid (fun (e:i≤top.toNat - f)=>M.pl.late_full (top:=top) (i:=i) (by rw [HFR.out];exact e))
  obtain ⟨X,hX⟩:∃X,M.pl.lateN i=X:=⟨_,rfl⟩
  simp only [hX] at ho h8 HN HE1 HE2 ⊢
  clear hX
  by_cases hlt:(f:Int) + i < top
  ·have dlt:decide ((f:Int) + i < top)=true:=decide_eq_true hlt
   by_cases hlen:X.length < 8
   ·have dlen:decide ((X.length:Int) < 8)=true:=decide_eq_true (by omega)
    obtain ⟨x,hx⟩:∃x:Int,(f:Int) + i=x:=⟨_,rfl⟩
    have hw1:IntKind.i64.wrap (x + 1)=x + 1:=by rw [IntKind.wrap_i64];omega
    have hwf:(Lit.int .i64 x).wf=true:=wfI (by omega) (by omega)
    rw [hx] at dlt HN hlt ⊢
    have h3:=h2.upd0 U
    have C1:=learnGet wr M.gl M.bl M.lv M.taken h3.lrn h3.lvRd x hwf
    have q7:wr.cell? ⟨M.gs,7,none⟩=some (.pointer (some ⟨M.gl,0,none⟩)):=h3.blk.cell 7
    have HDU:=Lib.hid (show M.pl.due x=(!(lookG x M.lv).isSome && (!(match lookG x M.rs with | some r=>decide ((r.age:Int)≤(M.pat:Int)) | none=>false) &&
      ((ownerI x M.n == (M.me:Int) && !M.pl.fresh x) || (ld && su.contains (ownerI x M.n))))) by
     unfold Site.due
     rw [HLE.out,HSU.out,SiteV.dec_pl,show lookG x M.pl.rs=(lookG x M.rs).map RnV.pl from lookG_map _ _ _,Option.isNone_map]
     cases lookG x M.lv <;> cases lookG x M.rs <;> simp <;> rfl)
    repeat' (first|go_values|go_skip|go_guarded|go_step|go_upon|(simp only [];go_at_K))
    ((with_reducible refine C1.mono ?_);rintro e w4 ⟨A4,n4,c4,rfl,-,hu4⟩)
    have hu4':=hu4.gives (b':=[]) (by simp)
    have h4:=h3.upd0 hu4
    have U4:=U.trans (hu4'.up _)
    have ho4:=ho.upd hu4' (by simp)
    clear C1 q7 h3 ho U hu4 hu4'
    obtain ⟨dc,hdc⟩:∃dc,(lookG x M.lv).isSome=dc:=⟨_,rfl⟩
    rw [hdc] at HDU
    rw [hdc]
    clear hdc
    cases dc with
    | true=>
     have HL:=Lib.hid (show M.pl.lateN (i + 1)=X by rw [HN.out,HDU.out];simp)
     repeat' (first|go_values|go_skip|go_guarded|go_step|go_upon|(simp only [];go_at_K))
     exact ⟨Kept.mk ⟨i + 1,A,c,.inr (by omega),(by rw [←hx];rfl),by rw [HL.out],by rw [HL.out];exact h8,by rw [HL.out];exact ho4,U4⟩,by simp [intOf];omega⟩
    | false=>
     have hlr:=h4.lookR hwf
     have q8:w4.cell? ⟨M.gs,8,none⟩=some (.map (some M.br)):=h4.blk.cell 8
     obtain ⟨E,hE⟩:∃E,(match lookG x M.rs with | some r=>decide ((r.age:Int)≤(M.pat:Int)) | none=>false)=E:=⟨_,rfl⟩
     rw [hE] at HDU
     have HEE:=Lib.hid hE
     clear hE
     obtain ⟨pt,hpt⟩:∃pt,((lookG x M.rs).map RnV.ptr).getD (.pointer none)=pt:=⟨_,rfl⟩
     obtain ⟨th,hth⟩:∃th,(lookG x M.rs).isSome=th:=⟨_,rfl⟩
     rw [hpt,hth] at hlr
     have HPT:=Lib.hid hpt
     have HTH:=Lib.hid hth
     clear hpt hth
     repeat' (first|go_values|go_skip|go_guarded|go_step|go_upon|(simp only [];go_at_K))
     go_cut [79] from 37 to 109 (fun s79 wc=>s79= .bool E∧Upd [] [] w4 wc)
     case first=>
      cases hq:lookG x M.rs with
      | none=>
       have h1:=HEE.out
       have h2':=HPT.out
       have h3:=HTH.out
       simp only [hq,Option.map_none,Option.getD_none,Option.isSome_none] at h1 h2' h3
       subst h1 h2' h3
       go_quiet (fail)
       repeat' (first|go_values|go_skip|go_guarded|go_step|go_upon|(simp only [];go_at_K))
       go_meet
       exact ⟨rfl,(Upd.refl [] w4).drewN _⟩
      | some r=>
       have h1:=HEE.out
       have h2':=HPT.out
       have h3:=HTH.out
       simp only [hq,Option.map_some,Option.getD_some,Option.isSome_some] at h1 h2' h3
       subst h1 h2' h3
       have r6:∀N,(w4.drewN N).cell? ⟨r.g,6,none⟩=some (.int .i64 (r.age:Int)):=fun N=>((h4.drewN N).rds _ (lookG_some hq)).blk.cell 6
       have g2:∀N,(w4.drewN N).cell? ⟨M.gs,2,none⟩=some (.int .i64 (M.pat:Int)):=fun N=>(h4.drewN N).blk.cell 2
       rw [RnV.ptr]
       go_quiet (fail)
       repeat' (first|go_values|go_skip|go_guarded|go_step|go_upon|(simp only [];go_at_K))
       go_meet
       exact ⟨by simp,(Upd.refl [] w4).drewN _⟩
     case rest=>
      obtain ⟨rfl,hu5⟩:=hcut
      have h5:=h4.upd0 hu5
      have U5:=U4.trans (hu5.up _)
      have ho5:=ho4.upd hu5 (by simp)
      clear h4 U4 ho4 hu5 hlr q8
      cases E with
      | true=>
       have HL:=Lib.hid (show M.pl.lateN (i + 1)=X by rw [HN.out,HDU.out];simp)
       repeat' (first|go_values|go_skip|go_guarded|go_step|go_upon|(simp only [];go_at_K))
       go_roundw
       case rel=>
        exact Kept.mk ⟨i + 1,A,c,.inr (by omega),(by rw [←hx];rfl),by rw [HL.out],by rw [HL.out];exact h8,by rw [HL.out];exact ho5,U5⟩
       case measure=>simp [intOf];omega
      | false=>
       obtain ⟨wo,hwo⟩:∃x,wc=x:=⟨_,rfl⟩
       rw [hwo] at h5 U5 ho5 ⊢
       have q1:wo.cell? ⟨M.gs,1,none⟩=some (.int .i64 (M.n:Int)):=h5.blk.cell 1
       have CO:=slotsOwner wo x M.n
       obtain ⟨o,ho'⟩:∃o,ownerI x M.n=o:=⟨_,rfl⟩
       rw [ho'] at CO HDU
       clear hwo ho'
       repeat' (first|go_values|go_skip|go_guarded|go_step|go_upon|(simp only [];go_at_K))
       ((with_reducible refine CO.mono ?_);rintro e w6 ⟨rfl,rfl⟩)
       have q0:wo.cell? ⟨M.gs,0,none⟩=some (.int .i64 (M.me:Int)):=h5.blk.cell 0
       have CFr:=siteFresh wo M h5 x hwf
       rw [SiteV.ptr] at CFr
       have hos6:=hos2.upd U5 (by simp)
       have CCo:=fun (w7:World) (hu:Upd [] [] wo w7)=>slicesContains w7 As cs su o (hos6.rd.upd hu (by simp)) (by omega)
       obtain ⟨b1,hb1⟩:∃b,(o == (M.me:Int))=b:=⟨_,rfl⟩
       obtain ⟨fr,hfr⟩:∃b,M.pl.fresh x=b:=⟨_,rfl⟩
       obtain ⟨co,hco⟩:∃b,su.contains o=b:=⟨_,rfl⟩
       simp only [hfr] at CFr
       simp only [hco] at CCo
       rw [hb1,hfr,hco] at HDU
       clear hfr hco
       go_upto_region 12 with fail
       go_cut [105] from 37 to 109 (fun s105 wc=>s105= .bool (b1 && !fr || ld && co)∧Upd [] [] wo wc)
       case first=>
        clear HE1 HE2 HEE HPT HTH HN HDU
        cases b1 with
        | false=>
         cases ld with
         | false=>
          repeat' (first|go_values|go_skip|go_guarded|go_step|go_upon|(simp only [];go_at_K))
          go_meet
          exact ⟨rfl,Upd.refl _ _⟩
         | true=>
          repeat' (first|go_values|go_skip|go_guarded|go_step|go_upon|(simp only [];go_at_K))
          ((with_reducible refine (CCo wo (Upd.refl _ _)).mono ?_);rintro e w7 ⟨rfl,rfl⟩)
          repeat' (first|go_values|go_skip|go_guarded|go_step|go_upon|(simp only [];go_at_K))
          go_meet
          exact ⟨by simp,Upd.refl _ _⟩
        | true=>
         cases fr with
         | false=>
          repeat' (first|go_values|go_skip|go_guarded|go_step|go_upon|(simp only [];go_at_K))
          ((with_reducible refine CFr.mono ?_);rintro e w7 ⟨rfl,hu7⟩)
          repeat' (first|go_values|go_skip|go_guarded|go_step|go_upon|(simp only [];go_at_K))
          go_meet
          exact ⟨rfl,hu7⟩
         | true=>
          repeat' (first|go_values|go_skip|go_guarded|go_step|go_upon|(simp only [];go_at_K))
          ((with_reducible refine CFr.mono ?_);rintro e w7 ⟨rfl,hu7⟩)
          cases ld with
          | false=>
           repeat' (first|go_values|go_skip|go_guarded|go_step|go_upon|(simp only [];go_at_K))
           go_meet
           exact ⟨rfl,hu7⟩
          | true=>
           repeat' (first|go_values|go_skip|go_guarded|go_step|go_upon|(simp only [];go_at_K))
           ((with_reducible refine (CCo w7 hu7).mono ?_);rintro e w8 ⟨rfl,rfl⟩)
           repeat' (first|go_values|go_skip|go_guarded|go_step|go_upon|(simp only [];go_at_K))
           go_meet
           exact ⟨by simp,hu7⟩
       case rest=>
        obtain ⟨rfl,hu8⟩:=hcut
        obtain ⟨F,hF⟩:∃F,(b1 && !fr || ld && co)=F:=⟨_,rfl⟩
        rw [hF] at HDU ⊢
        have U8:=U5.trans (hu8.up _)
        have ho8:=ho5.upd hu8 (by simp)
        clear hF CFr CCo hos6 U5 ho5 hu8 h5 q0 q1 CO
        cases F with
        | false=>
         have HL:=Lib.hid (show M.pl.lateN (i + 1)=X by rw [HN.out,HDU.out];simp)
         repeat' (first|go_values|go_skip|go_guarded|go_step|go_upon|(simp only [];go_at_K))
         go_roundw
         case rel=>
          exact Kept.mk ⟨i + 1,A,c,.inr (by omega),(by rw [←hx];rfl),by rw [HL.out],by rw [HL.out];exact h8,by rw [HL.out];exact ho8,U8⟩
         case measure=>simp [intOf];omega
        | true=>
         have HL:=Lib.hid (show M.pl.lateN (i + 1)=X ++ [x] by rw [HN.out,HDU.out];simp)
         repeat' ((fail_if_success (with_reducible refine stop_append rfl ?_));first|go_values|go_skip|go_guarded|go_step|go_upon|(simp only [];go_at_K))
         refine wpList_push rfl _ _ 168 rfl 3 Tryz.underlying168 infoI rfl (by decide) ho8 rfl wc.heap.size rfl rfl rfl rfl (by unfold maxLen;omega) (by omega) ?_
         intro A3 c3 w3 ho9 hu9
         have U9:=U8.trans hu9
         clear ho8 U8 hu9
         repeat' (first|go_values|go_skip|go_guarded|go_step|go_upon|(simp only [];go_at_K))
         go_roundw
         case rel=>
          exact Kept.mk ⟨i + 1,A3,c3,.inr (by omega),(by rw [←hx];rfl),by rw [HL.out];simp,by rw [HL.out];simp;omega,by rw [HL.out];simpa using ho9,U9⟩
         case measure=>simp [intOf];omega
   ·have dlen:decide ((X.length:Int) < 8)=false:=decide_eq_false (by omega)
    have HL:=Lib.hid (HE2.out (by omega) (by omega))
    clear HE1 HE2
    repeat' (first|go_values|go_skip|go_guarded|go_step|go_upon|(simp only [];go_at_K))
    go_ret
    rw [HL.out]
    exact ⟨A,c,rfl,ho,U2.trans U⟩
  ·have dlt:decide ((f:Int) + i < top)=false:=decide_eq_false hlt
   have HL:=Lib.hid (HE1.out (by omega))
   clear HE1 HE2
   repeat' (first|go_values|go_skip|go_guarded|go_step|go_upon|(simp only [];go_at_K))
   go_ret
   rw [HL.out]
   exact ⟨A,c,rfl,ho,U2.trans U⟩
end Go.Proofs.YtijhlbeipglieaaGreat
namespace Agio
open Go Go.Proofs.YtijhlbeipglieaaGreat
namespace Site
variable (s:Site)
def tick1:Site:=({s with wt:=tickG s.me s.wt s.n} :Site).again
def tick3:Site:=s.tick1.skip s.tick1.topA
def tick4:Site:=(s.tick3.late s.tick3.topA).foldl begin_ s.tick3
structure TickOk (s:Site):Prop where
 held:s.held.length≤600000000
 wt:∀x∈s.wt,0≤x
 age:∀p∈s.rs,p.2.age≤4000000000000000000
 held1:s.tick1.held.length≤700000000
 beg:∀j x,(s.tick3.late s.tick3.topA)[j]? =some x→(((s.tick3.late s.tick3.topA).take j).foldl begin_ s.tick3).held.length≤800000000∧
  ((((s.tick3.late s.tick3.topA).take j).foldl begin_ s.tick3).low x).may 7=true∧
  (((((s.tick3.late s.tick3.topA).take j).foldl begin_ s.tick3).stat x).so=true∨((((s.tick3.late s.tick3.topA).take j).foldl begin_ s.tick3).stat x).at_=⟨0,0⟩∧((((s.tick3.late s.tick3.topA).take j).foldl begin_ s.tick3).stat x).b= [])
 held4:s.tick4.held.length≤900000000
theorem tick_eq (hd:s.down=false):s.tick=if s.tick4.front < 4096 then s.tick4.others (ask_ s.tick4.front (decide ((s.tick4.front:Int) < s.tick3.topA))) s.tick4.n else s.tick4:=by
 unfold tick
 rw [if_neg (by rw [hd];simp)]
 rfl
theorem late_in {top x:Int} (h:x∈s.late top):0≤x∧x < top:=by
 have h1:=List.mem_of_mem_take h
 obtain ⟨h2,-⟩:=List.mem_filter.1 h1
 obtain ⟨i,hi,rfl⟩:=List.mem_map.1 h2
 rw [List.mem_range'_1] at hi
 omega
end Site
end Agio
namespace Go.Proofs.YtijhlbeipglieaaGreat
open Go.RowKit Agio Go.Maps
variable [Ban]
theorem SiteS.topA_le {w:World} {M:SiteV} (h:SiteS w M):M.pl.topA≤4096:=by
 rw [SiteV.top_pl]
 have h1:=h.ok.top.2
 have h2:=(topG_range M.lv fun p hp=>⟨(h.lrn.keys p hp).1,(h.lrn.keys p hp).2.1⟩).2
 show max M.top _≤_
 have:M.pl.top=M.top:=rfl
 omega
theorem siteTick (w:World) (M:SiteV) (h:SiteS w M) (hT:M.pl.down=false→M.pl.TickOk) :
  Calls Tryz.prog 34 #[M.ptr] w fun e w'=>e= .returned (.tuple #[])∧Gone w w' M M.pl.tick:=by
 have C0:=siteDown w M h
 rw [SiteV.ptr] at C0 ⊢
 obtain ⟨dn,hdn⟩:∃d,M.pl.down=d:=⟨_,rfl⟩
 rw [hdn] at C0
 cases dn with
 | true=>
  have HR:=Lib.hid (show M.pl.tick=M.pl by unfold Site.tick;rw [if_pos hdn])
  obtain ⟨R,hR⟩:∃R,M.pl.tick=R:=⟨_,rfl⟩
  rw [hR] at HR ⊢
  clear hR hT
  go_enter Tryz.func34,Tryz.ntmps34
  repeat' (first|go_values|go_skip|go_guarded|go_step|go_upon|(simp only [];go_at_K))
  ((with_reducible refine C0.mono ?_);rintro e w1 ⟨rfl,rfl⟩)
  repeat' (first|go_values|go_skip|go_guarded|go_step|go_upon|(simp only [];go_at_K))
  exact bodyPost_ret (v:=.tuple #[]) (results_none rfl _ _ _) rfl ⟨rfl,M,h,HR.out.symm,rfl,Upd.refl _ _⟩
 | false=>
  obtain ⟨t1,t2,t3,t4,t5,t6⟩:=hT hdn
  have HR:=Lib.hid (M.pl.tick_eq hdn)
  have n7:M.n≤7:=h.ok.n7
  obtain ⟨R,hR⟩:∃R,M.pl.tick=R:=⟨_,rfl⟩
  rw [hR] at HR ⊢
  have q10:w.cell? ⟨M.gs,10,none⟩=some (.pointer (some ⟨M.gw,0,none⟩)):=h.blk.cell 10
  have C1:=timerTick w M.gw M.me M.n M.pat M.wt h.wat n7 t2
  obtain ⟨l1,hl1⟩:∃l,M.pl.tick1=l:=⟨_,rfl⟩
  have H1:=Lib.hid (show ({M.pl with wt:=tickG M.me M.wt M.n} :Site).again=l1 from hl1)
  obtain ⟨l3,hl3⟩:∃l,M.pl.tick3=l:=⟨_,rfl⟩
  have H3:=Lib.hid (show l1.skip l1.topA=l3 by rw [←hl3,←hl1];rfl)
  obtain ⟨l4,hl4⟩:∃l,M.pl.tick4=l:=⟨_,rfl⟩
  have H4:=Lib.hid (show (l3.late l3.topA).foldl Site.begin_ l3=l4 by rw [←hl4,←hl3];rfl)
  simp only [hl1,hl3,hl4] at t4 t5 t6 HR
  clear hR hl1 hl3 hl4 hT
  go_enter Tryz.func34,Tryz.ntmps34
  repeat' (first|go_values|go_skip|go_guarded|go_step|go_upon|(simp only [];go_at_K))
  ((with_reducible refine C0.mono ?_);rintro e w1 ⟨rfl,rfl⟩)
  repeat' (first|go_values|go_skip|go_guarded|go_step|go_upon|(simp only [];go_at_K))
  ((with_reducible refine C1.mono ?_);rintro e w1 ⟨rfl,hW1,hu1⟩)
  obtain ⟨h1,V1⟩:=h.watch hu1 hW1
  obtain ⟨M1,hM1⟩:∃M1:SiteV,{M with wt:=tickG M.me M.wt M.n} =M1:=⟨_,rfl⟩
  rw [hM1] at h1
  replace V1:Upd M.fp M1.fp w w1:=by rw [←hM1];exact V1
  have p1:M1.pl= {M.pl with wt:=tickG M.me M.wt M.n}:=by rw [←hM1];rfl
  have g1:M1.gs=M.gs:=by rw [←hM1]
  rw [←p1] at H1
  have C2:=siteAgain w1 M1 h1 (by rw [←SiteV.held_len,p1];show M.pl.held.length≤_;omega) (by rw [p1];exact t3)
  rw [H1.out,SiteV.ptr,g1] at C2
  clear C0 C1 hM1 hW1 hu1 q10
  repeat' (first|go_values|go_skip|go_guarded|go_step|go_upon|(simp only [];go_at_K))
  ((with_reducible refine C2.mono ?_);rintro e w2 ⟨rfl,M2,h2,p2,g2,U2⟩)
  have g2':=g2.trans g1
  have C3:=siteTop w2 M2 h2
  have C4:=fun (wx:World) (hu:Upd [] [] w2 wx)=>siteSkip wx M2 (h2.upd0 hu) l1.topA (by rw [←SiteV.held_len,p2];exact t4)
  rw [p2,SiteV.ptr,g2'] at C3
  simp only [p2,H3.out,SiteV.ptr,g2'] at C4
  have UU:=V1.trans U2
  clear C2 h1 V1 U2 h
  repeat' (first|go_values|go_skip|go_guarded|go_step|go_upon|(simp only [];go_at_K))
  ((with_reducible refine C3.mono ?_);rintro e w3 ⟨rfl,hu3⟩)
  repeat' (first|go_values|go_skip|go_guarded|go_step|go_upon|(simp only [];go_at_K))
  ((with_reducible refine (C4 w3 hu3).mono ?_);rintro e w4 ⟨rfl,M4,h4,p4,g4,-,U4⟩)
  have g4':=g4.trans g2'
  have C5:=siteTop w4 M4 h4
  have hta:=h4.topA_le
  have C6:=fun (wx:World) (hu:Upd [] [] w4 wx)=>siteLate wx M4 (h4.upd0 hu) l3.topA (by rw [←p4];omega)
  rw [p4,SiteV.ptr,g4'] at C5
  simp only [p4,SiteV.ptr,g4'] at C6
  rw [p4] at hta
  have U5:=UU.trans ((hu3.up M2.fp).trans U4)
  clear C3 C4 h2 UU U4 hu3
  repeat' (first|go_values|go_skip|go_guarded|go_step|go_upon|(simp only [];go_at_K))
  ((with_reducible refine C5.mono ?_);rintro e w5 ⟨rfl,hu5⟩)
  repeat' (first|go_values|go_skip|go_guarded|go_step|go_upon|(simp only [];go_at_K))
  ((with_reducible refine (C6 w5 hu5).mono ?_);rintro e w6 ⟨A,c,rfl,ho,hu6⟩)
  have h6:=(h4.upd0 hu5).upd0 hu6
  have hnw:=(Upd.refl [] w5).new hu6
  have hsz:=hu5.size
  have hAf:∀k∈ablk A,k∉M4.fp:=fun k hk hm=>by have e1:=hnw k hk;have e2:=h4.lt k hm;omega
  have U6:=(U5.trans (hu5.up M4.fp)).trans ((hu6.gives (b':=[]) (by simp)).up M4.fp)
  have hlin:∀x∈l3.late l3.topA,0≤x∧x < 4096:=fun x hx=>by have:=l3.late_in hx;omega
  have hl8:(l3.late l3.topA).length≤8:=by unfold Site.late;rw [List.length_take];omega
  obtain ⟨ls,hls⟩:∃ls,l3.late l3.topA=ls:=⟨_,rfl⟩
  obtain ⟨tp,htp⟩:∃tp,l3.topA=tp:=⟨_,rfl⟩
  simp only [hls] at ho hlin hl8 t5 H4 ⊢
  simp only [htp] at HR ⊢
  clear C5 C6 h4 U5 hu5 hu6 hnw hls htp
  repeat' (first|go_values|go_skip|go_guarded|go_step|go_upon|(simp only [];go_at_K))
  go_loopw [26] (fun v26 wr=>∃(i:Nat) (M':SiteV),i≤ls.length∧v26= .int .i64 (i:Int)∧SiteS wr M'∧M'.pl=(ls.take i).foldl Site.begin_ l3∧M'.gs=M.gs∧Upd M4.fp M'.fp w6 wr) (fun v26 _=>ls.length - (intOf v26).toNat)
  case atStart=>exact ⟨0,M4,by omega,rfl,h6,p4,g4',Upd.refl _ _⟩
  case round=>
   obtain ⟨i,M',hi,rfl,h',hp,hg,U⟩:=hrel
   by_cases hlt:i < ls.length
   ·have hil:(i:Int) < (ls.length:Int):=by omega
    have hw1:IntKind.i64.wrap ((i:Int) + 1)=(i:Int) + 1:=by rw [IntKind.wrap_i64];omega
    have ho':=ho.upd U hAf
    obtain ⟨ad,u,rfl,hu',hc⟩:=ho'.rd.at_ (k:=i) (by omega)
    rw [List.getElem?_map,List.getElem?_eq_getElem hlt,Option.map_some,Option.some.injEq] at hu'
    subst hu'
    obtain ⟨b1,b2,b3⟩:=t5 i _ (List.getElem?_eq_getElem hlt)
    rw [←hp] at b1 b2 b3
    have C7:=siteBegin wr M' h' ls[i] (hlin _ (List.getElem_mem hlt)) (by rw [←SiteV.held_len];exact b1) b2 b3
    have HS:=Lib.hid (show M'.pl.begin_ ls[i]=(ls.take (i + 1)).foldl Site.begin_ l3 by rw [List.take_succ_eq_append_getElem hlt,List.foldl_append,←hp];rfl)
    rw [SiteV.ptr,hg] at C7
    generalize ls[i]=x at *
    rw [HS.out] at C7
    repeat' (first|go_values|go_skip|go_guarded|go_step|go_upon|(simp only [];go_at_K))
    ((with_reducible refine C7.mono ?_);rintro e w8 ⟨rfl,M8,h8,p8,g8,U8⟩)
    repeat' (first|go_values|go_skip|go_guarded|go_step|go_upon|(simp only [];go_at_K))
    exact ⟨⟨i + 1,M8,by omega,by simp,h8,p8,g8.trans hg,U.trans U8⟩,by simp [intOf];omega⟩
   ·obtain rfl:i=ls.length:=by omega
    have hil:¬ ((ls.length:Int) < (ls.length:Int)):=by omega
    rw [List.take_length,H4.out] at hp
    have q7:wr.cell? ⟨M.gs,7,none⟩=some (.pointer (some ⟨M'.gl,0,none⟩)):=by rw [←hg];exact h'.blk.cell 7
    have C8:=learnFrontier wr M'.gl M'.bl M'.lv M'.taken h'.lrn
    rw [←SiteV.front_pl,hp] at C8
    have UE:=U6.trans U
    obtain ⟨fr,hfr⟩:∃fr,l4.front=fr:=⟨_,rfl⟩
    rw [hfr] at C8 HR
    clear hfr
    repeat' (first|go_values|go_skip|go_guarded|go_step|go_upon|(simp only [];go_at_K))
    ((with_reducible refine C8.mono ?_);rintro e w8 ⟨rfl,rfl⟩)
    by_cases hf:fr < 4096
    ·have df:decide ((fr:Int) < 4096)=true:=decide_eq_true (by omega)
     have HRR:=Lib.hid (show R=l4.others (Site.ask_ fr (decide ((fr:Int) < tp))) l4.n by rw [HR.out,if_pos hf])
     have hms:Mv.ms ⟨8,0,0,fr,0,0,0,0,(decide ((fr:Int) < tp)),none,0,0,[]⟩=Site.ask_ fr (decide ((fr:Int) < tp)):=rfl
     have C9:=siteOthers wr M' h' ⟨8,0,0,fr,0,0,0,0,(decide ((fr:Int) < tp)),none,0,0,[]⟩ (by rw [hms];refine ⟨by simp [Site.ask_],by simp,by simp,by simp [Site.ask_];omega,by simp [Site.ask_],by simp [Site.ask_],by simp [Site.ask_],by simp [Site.ask_],by simp [Site.ask_],by right;simp [Site.ask_]⟩) (RdB.nil _ _) (by simp [ablk]) (by rw [←SiteV.held_len,hp];exact t6)
     rw [hms,hp,SiteV.ptr,hg,Mv.val_eq,show M'.n=l4.n from congrArg Site.n hp] at C9
     dsimp only at C9
     repeat' (first|go_values|go_skip|go_guarded|go_step|go_upon|(simp only [];go_at_K))
     ((with_reducible refine C9.mono ?_);rintro e w9 ⟨rfl,M9,h9,p9,g9,-,U9⟩)
     repeat' (first|go_values|go_skip|go_guarded|go_step|go_upon|(simp only [];go_at_K))
     exact bodyPost_end (results_none rfl _ _ _) rfl ⟨rfl,M9,h9,p9.trans HRR.out.symm,g9.trans hg,UE.trans U9⟩
    ·have df:decide ((fr:Int) < 4096)=false:=decide_eq_false (by omega)
     have HRR:=Lib.hid (show R=l4 by rw [HR.out,if_neg hf])
     repeat' (first|go_values|go_skip|go_guarded|go_step|go_upon|(simp only [];go_at_K))
     exact bodyPost_end (results_none rfl _ _ _) rfl ⟨rfl,M',h',hp.trans HRR.out.symm,hg,UE⟩
end Go.Proofs.YtijhlbeipglieaaGreat
