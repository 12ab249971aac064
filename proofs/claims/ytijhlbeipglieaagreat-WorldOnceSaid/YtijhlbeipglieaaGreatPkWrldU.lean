/- Layer 24: agiolaw24.WorldOrder. -/
import Derived.Test.YtijhlbeipglieaaGreatPkWrldL
import Derived.Test.YtijhlbeipglieaaGreatPkRefB
set_option linter.all false
set_option maxRecDepth 100000
set_option maxHeartbeats 8000000
namespace Go.Proofs.YtijhlbeipglieaaGreat
open Go.RowKit Agio Go.Maps
theorem OwnS.turn {w w':World} {A:Option Addr} {c:Nat} {l:List Bsl} {a b:List Nat} (h:OwnS w A c l) (hu:Upd a b w w') (h1:∀k∈ablk A,k∉a) (h2:∀x∈l,∀k∈ablk x.A,k∉a):OwnS w' A c l:=
 ⟨h.own.upd hu h1,fun x hx=>(h.each x hx).upd hu (h2 x hx)⟩
def DoneP (G:Int→List Rc) (k:Nat) (d:List (List UInt8)):Prop:=∃(f:Nat→List UInt8) (t:Nat),d=valsF f t∧∀x,x < t→Dec G k (x:Int) (f x)
theorem DoneP.mono {G G':Int→List Rc} {k:Nat} {d:List (List UInt8)} (h:DoneP G k d) (hg:GLe G G'):DoneP G' k d:=by
 obtain ⟨f,t,h1,h2⟩:=h
 exact ⟨f,t,h1,fun x hx=>(h2 x hx).mono hg⟩
theorem DoneP.meet {G:Int→List Rc} {k:Nat} {P:Int→List UInt8→Prop} (hG:Glob G k P) {d e:List (List UInt8)} (hd:DoneP G k d) (he:DoneP G k e):d.take (min d.length e.length)=e.take (min d.length e.length):=by
 obtain ⟨f,t,rfl,h2⟩:=hd
 obtain ⟨g,u,rfl,h4⟩:=he
 exact valsF_meet fun x h5 h6=>hG.agree (h2 x h5) (h4 x h6)
theorem _root_.Agio.WInv.doneP {w:Wd} {n c:Nat} {P:Int→List UInt8→Prop} {G:Int→List Rc} (h:WInv w n P c G) (hD:DInv w) {i:Nat} (hi:i < w.ss.length):DoneP G n (w.done.getD i []):=by
 obtain ⟨d,h1,h2⟩:=hD.one i w.ss[i] (List.getElem?_eq_getElem hi)
 rw [List.getD_eq_getElem?_getD,h1]
 refine ⟨w.ss[i].val,w.ss[i].taken,h2.eq,fun x hx=>?_⟩
 obtain ⟨v,hv⟩:=h2.all x hx
 have e:w.ss[i].val x=v:=by unfold Site.val;rw [hv];rfl
 rw [e]
 exact h.dec (List.getElem?_eq_getElem hi) hv
structure OrS (w wr:World) (V:WV) (k i:Nat) (A:Option Addr) (c:Nat) (all:List Bsl):Prop where
 ws:WS wr V
 inv:∃G,WInv V.pl k (fun _ _=>True) (300 * (150 - i)) G∧DoneP G k (all.map Bsl.b)
 din:DInv V.pl
 own:OwnS wr A c all
 far:(∀q∈ablk A,q∉V.fp)∧∀x∈all,∀q∈ablk x.A,q∉V.fp
 up:Upd [] V.fp w wr
namespace OrS
variable {w wr w':World} {V V':WV} {k i:Nat} {A A':Option Addr} {c c':Nat} {all l:List Bsl}
theorem upd0 (h:OrS w wr V k i A c all) {b:List Nat} (hu:Upd [] b wr w'):OrS w w' V k i A c all:=
 ⟨h.ws.upd0 hu,h.inv,h.din,h.own.upd hu,h.far,h.up.trans (hu.up V.fp)⟩
theorem len (h:OrS w wr V k i A c all):V.pl.ss.length=k:=by
 obtain ⟨G,h1,-⟩:=h.inv
 exact h1.len
theorem turn (h:OrS w wr V k i A c all) {j:Nat} (hw:WS w' V') (hu:Upd V.fp V'.fp wr w') (hi:∃G,WInv V'.pl k (fun _ _=>True) (300 * (150 - j)) G∧DoneP G k (all.map Bsl.b)) (hd:DInv V'.pl):OrS w w' V' k j A c all:=
 ⟨hw,hi,hd,h.own.turn hu h.far.1 h.far.2,⟨fun q hq=>hu.notin (h.far.1 q hq) (h.own.own.lt q hq),fun x hx q hq=>hu.notin (h.far.2 x hx q hq) ((h.own.each x hx).own.lt q hq)⟩,h.up.trans hu⟩
theorem played (h:OrS w wr V k i A c all) (hi:i < 150) (hw:WS w' V') (hu:Upd V.fp V'.fp wr w') {kk ss aa nn:Int} {v:List UInt8} (hp:V'.pl=(V.pl.do_ kk ss aa nn v).1):OrS w w' V' k (i + 1) A c all:=by
 obtain ⟨G,h1,h2⟩:=h.inv
 obtain ⟨G',g1,h3⟩:=(h1.less (d:=300 + 300 * (150 - (i + 1))) (by omega)).do_ (P':=fun _ _=>True) (by omega) kk ss aa nn v (fun _ _ h=>h) (fun _ _=>trivial)
 exact h.turn hw hu ⟨G',by rw [hp];exact h3,h2.mono g1⟩ (by rw [hp];exact h.din.do_ kk ss aa nn v)
theorem done (h:OrS w wr V k i A c all) {s:Nat} (hs:s < k) (hl:l.map Bsl.b=(V.pl.take s).done.getD s []) (ho:OwnS w' A' c' l) (hf:(∀q∈ablk A',q∉V'.fp)∧∀x∈l,∀q∈ablk x.A,q∉V'.fp) (hw:WS w' V') (hp:V'.pl=V.pl.take s) (hu:Upd V.fp V'.fp wr w') :
  OrS w w' V' k i A c all∧OrS w w' V' k i A' c' l∧l.length≤4096∧(l.map Bsl.b).take (min l.length all.length)=(all.map Bsl.b).take (min l.length all.length):=by
 obtain ⟨G,h1,h2⟩:=h.inv
 have h3:=h1.take s
 have hd:=h.din.take s
 rw [←hp] at h3 hd hl
 have hsl:s < V'.pl.ss.length:=by rw [h3.len];exact hs
 have h4:=h3.doneP hd hsl
 rw [←hl] at h4
 have k1:=h.turn hw hu ⟨G,h3,h2⟩ hd
 have hlen:l.length≤4096:=by
  obtain ⟨d,e1,e2⟩:=hd.one s _ (List.getElem?_eq_getElem hsl)
  have e3:=congrArg List.length hl
  rw [List.length_map,List.getD_eq_getElem?_getD,e1,Option.getD_some] at e3
  have e4:=e2.len
  have hsV:s < V'.ss.length:=by unfold WV.pl at hsl;simpa using hsl
  have e5:V'.pl.ss[s]=V'.ss[s].pl:=List.getElem_map _
  rw [e5] at e4
  have e6:V'.ss[s].taken≤4096:=(@SiteS.lrn ⟨[]⟩ _ _ (hw.sites _ (List.getElem_mem hsV))).t
  have e7:V'.ss[s].pl.taken=V'.ss[s].taken:=rfl
  omega
 refine ⟨k1,⟨hw,⟨G,h3,h4⟩,hd,ho,hf,k1.up⟩,hlen,?_⟩
 have:=DoneP.meet h3.glob h4 h2
 rwa [List.length_map,List.length_map] at this
theorem wlv (h:OrS w wr V k i A c all) (hi:i < 150):WLv V.pl 300:=by
 obtain ⟨G,h1,-⟩:=h.inv
 intro a s hs
 exact (h1.lv a s hs).less (by omega)
end OrS
theorem worldOrder_any (w:World) (b:Nat) (hb:b < 256) (B:Option Addr) (m d:Nat) (l:List Ev) (hl:RdS Ev.cells 5 w B m l) (he:∀x∈l,Ev.Rds w x) :
  Calls Tryz.prog 7 #[.int .u8 (b:Int),.slice B m d] w fun e w'=>e= .returned (.bool true)∧Upd [] [] w w':=by
 have C1:=worldAwake w
 have C2:=fun w=>worldBegun w b hb
 have hml:=hl.len
 subst hml
 go_enter Tryz.func7,Tryz.ntmps7
 repeat' (first|go_values|go_skip|go_guarded|go_step|go_upon|(simp only [];go_at_K))
 ((with_reducible refine C1.mono ?_);rintro e w1 ⟨rfl,u1⟩)
 repeat' (first|go_values|go_skip|go_guarded|go_step|go_upon|(simp only [];go_at_K))
 ((with_reducible refine (C2 w1).mono ?_);rintro e w2 ⟨V,rfl,h2,hp2,hf2,u2⟩)
 clear C1 C2
 simp only [WV.ptr]
 repeat' (first|go_values|go_skip|go_guarded|go_step|go_upon|(simp only [];go_at_K))
 obtain ⟨k,hk⟩:∃k,cntW b=k:=⟨_,rfl⟩
 have hk7:k≤7:=by rw [←hk];unfold cntW;omega
 have UU:Upd [] V.fp w w2:=(u1.gives (b':=V.fp) (fun k hk=>.inr (by have:=hf2 k hk;have:=u1.size;omega))).trans (u2.mono (by simp) (fun k hk=>.inl hk))
 have START:=Lib.hid (show OrS w w2 V k 0 none 0 [] from by
  refine ⟨h2,?_,by rw [hp2];exact DInv.new _ _,⟨Agio.Own.nil _ _ _,by simp⟩,by simp [ablk],UU⟩
  have:=newOkW b
  rw [hk] at this
  rw [hp2,hk]
  exact ⟨_,(WInv.new this _).less (by omega),fun _=>[],0,rfl,fun x hx=>by omega⟩)
 rw [hk]
 clear hk hp2 hf2 u1 u2 h2 UU
 go_loopw [8,9] (fun v8 v9 wr=>KeptW (∃(i:Nat) (V':WV) (A:Option Addr) (c:Nat) (all:List Bsl),i≤l.length∧i≤150∧v9= .int .i64 (i:Int)∧v8= .slice A all.length c∧V'.gw=V.gw∧all.length≤4096∧OrS w wr V' k i A c all)) (fun _ v9 _=>150 - (intOf v9).toNat)
 case atStart=>exact KeptW.mk ⟨0,V,none,0,[],by omega,by omega,rfl,rfl,rfl,by simp,START.out⟩
 case round=>
  obtain ⟨i,V1,A,c,all,him,hi150,rfl,rfl,hg,hal,hS⟩:=hrel.out
  clear hrel START
  have UF:Upd [] [] w wr:=hS.up.gives (by simp)
  by_cases h1:i < l.length
  case neg=>
   have hd1:decide (i < l.length)=false:=decide_eq_false h1
   have hi1:¬ (i:Int) < (l.length:Int):=by omega
   clear hS
   repeat' (first|go_values|go_skip|go_guarded|go_step|go_upon|(simp only [];go_at_K))
   go_ret
   exact ⟨rfl,UF⟩
  by_cases h2:i < 150
  case neg=>
   have hd1:decide (i < l.length)=true:=decide_eq_true h1
   have hi1:(i:Int) < (l.length:Int):=by omega
   have hd2:decide ((i:Int) < 150)=false:=decide_eq_false (by omega)
   clear hS
   repeat' (first|go_values|go_skip|go_guarded|go_step|go_upon|(simp only [];go_at_K))
   go_ret
   exact ⟨rfl,UF⟩
  have hi1:(i:Int) < (l.length:Int):=by omega
  have hd1:decide (i < l.length)=true:=decide_eq_true h1
  have hd2:decide ((i:Int) < 150)=true:=decide_eq_true (by omega)
  have hw1:IntKind.i64.wrap ((i:Int) + 1)=(i:Int) + 1:=by rw [IntKind.wrap_i64];omega
  obtain ⟨ad,rfl,h0,hjc⟩:=RdS.at_ (f:=Ev.cells) (s:=5) Ev.cells_len hl (i:=i) (by omega)
  have hey:=(he _ (List.getElem_mem (show i < l.length by omega))).upd0 UF
  generalize l[i]=x at *
  have d0:=UF.cell (h0 _ rfl) (by simp)
  have d1:=UF.cell (hjc 1 _ (by omega) rfl) (by simp)
  have d2:=UF.cell (hjc 2 _ (by omega) rfl) (by simp)
  have d3:=UF.cell (hjc 3 _ (by omega) rfl) (by simp)
  have d4:=UF.cell (hjc 4 _ (by omega) rfl) (by simp)
  clear h0 hjc
  have C:=worldPlay wr V1 hS.ws x hey i (by omega) (hS.wlv h2)
  rw [WV.ptr,hg,Ev.val_eq] at C
  have HOW:=Lib.hid hS
  clear hS hey
  repeat' (first|go_values|go_skip|go_guarded|go_step|go_upon|(simp only [];go_at_K))
  ((with_reducible refine C.mono ?_);rintro e w5 ⟨A5,n5,c5,V5,rfl,-,h5,hp5,hg5,u5⟩)
  have hS5:=HOW.out.played h2 h5 u5 hp5
  clear C HOW h5 hp5 u5
  repeat' (first|go_values|go_skip|go_guarded|go_step|go_upon|(simp only [];go_at_K))
  go_loopw [8,10] (fun v8 v10 wr=>KeptW (∃(s:Nat) (V':WV) (A:Option Addr) (c:Nat) (all:List Bsl),s≤k∧v10= .int .i64 (s:Int)∧v8= .slice A all.length c∧V'.gw=V.gw∧all.length≤4096∧OrS w wr V' k (i + 1) A c all)) (fun _ v10 _=>k - (intOf v10).toNat)
  case atStart=>exact KeptW.mk ⟨0,V5,A,c,all,by omega,rfl,rfl,hg5,hal,hS5⟩
  case round=>
   obtain ⟨s,V6,A6,c6,all6,hsk,rfl,rfl,hg6,hal6,hS6⟩:=hrel.out
   clear hrel hS5
   by_cases hlt:s < k
   case neg=>
    obtain rfl:s=k:=by omega
    have hil:¬ ((s:Int) < (s:Int)):=by omega
    repeat' (first|go_values|go_skip|go_guarded|go_step|go_upon|(simp only [];go_at_K))
    exact ⟨KeptW.mk ⟨i + 1,V6,A6,c6,all6,by omega,by omega,by simp,rfl,hg6,hal6,hS6⟩,by simp [intOf];omega⟩
   have hil:(s:Int) < (k:Int):=by omega
   have hw2:IntKind.i64.wrap ((s:Int) + 1)=(s:Int) + 1:=by rw [IntKind.wrap_i64];omega
   have C:=worldDoneP wr V6 hS6.ws hS6.din s (by rw [hS6.len];exact hlt)
   rw [WV.ptr,hg6] at C
   have HOW:=Lib.hid hS6
   clear hS6
   repeat' (first|go_values|go_skip|go_guarded|go_step|go_upon|(simp only [];go_at_K))
   ((with_reducible refine C.mono ?_);rintro e w7 ⟨A7,c7,l7,V7,rfl,hl7,ho7,hA7,hx7,h7,hp7,hg7,u7⟩)
   obtain ⟨k1,k2,k4,k3⟩:=HOW.out.done hlt hl7 ho7 ⟨fun q hq=>(hA7 q hq).2,fun x hx q hq=>(hx7 x hx q hq).2⟩ h7 hp7 u7
   clear C HOW hl7 ho7 hA7 hx7 h7 hp7 u7
   obtain ⟨q,hq⟩:∃q,min l7.length all6.length=q:=⟨_,rfl⟩
   have hmi:min (l7.length:Int) (all6.length:Int)=(q:Int):=by omega
   have hq7:q≤l7.length:=by omega
   have hq6:q≤all6.length:=by omega
   rw [hq] at k3
   have t7:=k2.own.rdr.take hq7
   have t6:=k1.own.rdr.take hq6
   have e7:(l7.take q).length=q:=by rw [List.length_take];omega
   have e6:(all6.take q).length=q:=by rw [List.length_take];omega
   have CS:=fun (p:GU w7)=>GU.call p (ref12Same p.w A7 A6 c7 c6 (l7.take q) (all6.take q) (t7.upd0 p.u) (t6.upd0 p.u) (by omega))
   rw [e7,e6,List.map_take,List.map_take,k3] at CS
   simp only [beq_self_eq_true] at CS
   have cap7:=k2.own.own.cap
   have cap6:=k1.own.own.cap
   have hq7i:(q:Int)≤(c7:Int):=by omega
   have hq6i:(q:Int)≤(c6:Int):=by omega
   have hq0:(0:Int)≤(q:Int):=by omega
   have HQ:=Lib.hid hq
   have K1:=Lib.hid k1
   have K2:=Lib.hid k2
   clear hq k3 t7 t6 e7 e6 k1 k2 hq7 hq6
   repeat' (first|go_values|go_skip|go_guarded|go_step|go_upon|(simp only [];go_at_K))
   refine quiet_gu (by kernel_rfl) (by kernel_rfl) ?_
   repeat (go_big_quiet_step (exact CS _))
   refine wpQuiet_nil ?_
   rintro _ ⟨p,rfl⟩
   have K1:=Lib.hid (K1.out.upd0 p.u)
   have K2:=Lib.hid (K2.out.upd0 p.u)
   clear CS
   by_cases hgt:all6.length < l7.length
   ·have g1:decide ((all6.length:Int) < (l7.length:Int))=true:=decide_eq_true (by omega)
    have g2:decide (all6.length < l7.length)=true:=decide_eq_true hgt
    repeat' (first|go_values|go_skip|go_guarded|go_step|go_upon|(simp only [];go_at_K))
    exact ⟨KeptW.mk ⟨s + 1,V7,A7,c7,l7,by omega,by simp,rfl,hg7,k4,K2.out⟩,by simp [intOf];omega⟩
   ·have g1:decide ((all6.length:Int) < (l7.length:Int))=false:=decide_eq_false (by omega)
    have g2:decide (all6.length < l7.length)=false:=decide_eq_false hgt
    repeat' (first|go_values|go_skip|go_guarded|go_step|go_upon|(simp only [];go_at_K))
    exact ⟨KeptW.mk ⟨s + 1,V7,A6,c6,all6,by omega,by simp,rfl,hg7,hal6,K1.out⟩,by simp [intOf];omega⟩
end Go.Proofs.YtijhlbeipglieaaGreat
