/- Merged: WrldU, WrldX, WrldY. -/
import Derived.Test.YtijhlbeipglieaaGreatPkWrldL
import Derived.Test.YtijhlbeipglieaaGreatPkRefB
import Derived.Test.YtijhlbeipglieaaGreatPkCalmB
set_option linter.all false
set_option maxRecDepth 100000
set_option maxHeartbeats 16000000
namespace Go.Proofs.YtijhlbeipglieaaGreat
open Go.RowKit Agio Go.Maps
theorem OwnS.turn {w w':World} {A:Option Addr} {c:Nat} {l:List Bsl} {a b:List Nat} (h:OwnS w A c l) (hu:Upd a b w w') (h1:∀k∈ablk A,k∉a) (h2:∀x∈l,∀k∈ablk x.A,k∉a):OwnS w' A c l:=
 ⟨h.own.upd hu h1,fun x hx=>(h.each x hx).upd hu (h2 x hx)⟩
def DoneP (G:Int→List Rc) (k:Nat) (d:List (List UInt8)):Prop:=∃(f:Nat→List UInt8) (t:Nat),d=valsF f t∧∀x,x < t→Dec G k (x:Int) (f x)
theorem DoneP.meet {G:Int→List Rc} {k:Nat} {P:Int→List UInt8→Prop} (hG:Glob G k P) {d e:List (List UInt8)} (hd:DoneP G k d) (he:DoneP G k e):d.take (min d.length e.length)=e.take (min d.length e.length):=by
 obtain ⟨f,t,rfl,h2⟩:=hd
 obtain ⟨g,u,rfl,h4⟩:=he
 exact valsF_meet fun x h5 h6=>hG.agree (h2 x h5) (h4 x h6)
theorem _root_.Agio.WInv.doneP {w:Wd} {n c:Nat} {P:Int→List UInt8→Prop} {G:Int→List Rc} (h:WInv w n P c G) (hD:DInv w) {i:Nat} (hi:i < w.ss.length):DoneP G n (w.done.getD i []):=by
 obtain ⟨d,h1,h2⟩:=hD.one i w.ss[i] (List.getElem?_eq_getElem hi)
 rw [List.getD_eq_getElem?_getD,h1]
 refine ⟨w.ss[i].val,w.ss[i].taken,h2.eq,fun x hx=>?_⟩
 obtain ⟨v,hv⟩:=h2.all x hx
 have e:w.ss[i].val x=v:=by unfold Site.val;rw [hv];rfl
 rw [e]
 exact h.dec (List.getElem?_eq_getElem hi) hv
structure OrS (w wr:World) (V:WV) (k i:Nat) (A:Option Addr) (c:Nat) (all:List Bsl):Prop where
 ws:WS wr V
 inv:∃G,WInv V.pl k (fun _ _=>True) (300 * (150 - i)) G∧DoneP G k (all.map Bsl.b)
 din:DInv V.pl
 own:OwnS wr A c all
 far:(∀q∈ablk A,q∉V.fp)∧∀x∈all,∀q∈ablk x.A,q∉V.fp
 up:Upd [] V.fp w wr
namespace OrS
variable {w wr w':World} {V V':WV} {k i:Nat} {A A':Option Addr} {c c':Nat} {all l:List Bsl}
theorem len (h:OrS w wr V k i A c all):V.pl.ss.length=k:=by
 obtain ⟨G,h1,-⟩:=h.inv
 exact h1.len
theorem turn (h:OrS w wr V k i A c all) {j:Nat} (hw:WS w' V') (hu:Upd V.fp V'.fp wr w') (hi:∃G,WInv V'.pl k (fun _ _=>True) (300 * (150 - j)) G∧DoneP G k (all.map Bsl.b)) (hd:DInv V'.pl):OrS w w' V' k j A c all:=
 ⟨hw,hi,hd,h.own.turn hu h.far.1 h.far.2,⟨fun q hq=>hu.notin (h.far.1 q hq) (h.own.own.lt q hq),fun x hx q hq=>hu.notin (h.far.2 x hx q hq) ((h.own.each x hx).own.lt q hq)⟩,h.up.trans hu⟩
theorem done (h:OrS w wr V k i A c all) {s:Nat} (hs:s < k) (hl:l.map Bsl.b=(V.pl.take s).done.getD s []) (ho:OwnS w' A' c' l) (hf:(∀q∈ablk A',q∉V'.fp)∧∀x∈l,∀q∈ablk x.A,q∉V'.fp) (hw:WS w' V') (hp:V'.pl=V.pl.take s) (hu:Upd V.fp V'.fp wr w') :
  OrS w w' V' k i A c all∧OrS w w' V' k i A' c' l∧l.length≤4096∧(l.map Bsl.b).take (min l.length all.length)=(all.map Bsl.b).take (min l.length all.length):=by
 obtain ⟨G,h1,h2⟩:=h.inv
 have h3:=h1.take s
 have hd:=h.din.take s
 rw [←hp] at h3 hd hl
 have hsl:s < V'.pl.ss.length:=by rw [h3.len];exact hs
 have h4:=h3.doneP hd hsl
 rw [←hl] at h4
 have k1:=h.turn hw hu ⟨G,h3,h2⟩ hd
 have hlen:l.length≤4096:=by
  obtain ⟨d,e1,e2⟩:=hd.one s _ (List.getElem?_eq_getElem hsl)
  have e3:=congrArg List.length hl
  rw [List.length_map,List.getD_eq_getElem?_getD,e1,Option.getD_some] at e3
  have e4:=e2.len
  have hsV:s < V'.ss.length:=by unfold WV.pl at hsl;simpa using hsl
  have e5:V'.pl.ss[s]=V'.ss[s].pl:=List.getElem_map _
  rw [e5] at e4
  have e6:V'.ss[s].taken≤4096:=(@SiteS.lrn ⟨[]⟩ _ _ (hw.sites _ (List.getElem_mem hsV))).t
  have e7:V'.ss[s].pl.taken=V'.ss[s].taken:=rfl
  omega
 refine ⟨k1,⟨hw,⟨G,h3,h4⟩,hd,ho,hf,k1.up⟩,hlen,?_⟩
 have:=DoneP.meet h3.glob h4 h2
 rwa [List.length_map,List.length_map] at this
end OrS
end Go.Proofs.YtijhlbeipglieaaGreat
namespace Go.Proofs.YtijhlbeipglieaaGreat
open Go.RowKit Agio Go.Maps
theorem WV.seen (V:WV) {s:Nat} {t:Site} (hs:V.pl.ss[s]? =some t):((V.at_ (s:Int)).map fun M=>M.pl.front).getD 0=t.front∧((V.at_ (s:Int)).map fun M=>M.pl.topA).getD 0=t.topA∧((V.at_ (s:Int)).map fun M=>M.pl.down).getD true=t.down:=by
 rw [V.ss_pl] at hs
 obtain ⟨M,hM,rfl⟩:=Option.map_eq_some_iff.1 hs
 rw [WV.at_nat,hM]
 exact ⟨rfl,rfl,rfl⟩
structure LkS (w wr:World) (V V':WV) (i:Nat):Prop where
 ws:WS wr V'
 tks:Wd.Tks V.pl V'.pl
 gw:V'.gw=V.gw
 up:Upd V.fp V'.fp w wr
 lvl:∀j,j < i→V.pl.lvlAt (V.pl.topM V.pl.ss.length) j=true
theorem LkS.dinv {w wr:World} {V V':WV} {i:Nat} (h:LkS w wr V V' i) (hD:DInv V.pl):DInv V'.pl:=h.tks.ind (I:=DInv) (fun _ i h=>h.take i) hD
theorem worldLevel (w:World) (V:WV) (h:WS w V) (hD:DInv V.pl) (k:Nat) (hk:V.pl.ss.length=k) (h0:0 < k) (h7:k≤7) :
  Calls Tryz.prog 45 #[V.ptr,.int .i64 (k:Int)] w fun e w'=>∃V':WV,e= .returned (.bool V.pl.level)∧WS w' V'∧Wd.Tks V.pl V'.pl∧V'.gw=V.gw∧Upd V.fp V'.fp w w':=by
 obtain ⟨tp,htp⟩:∃tp,V.pl.topM k=tp:=⟨_,rfl⟩
 obtain ⟨R,hR⟩:∃R,V.pl.level=R:=⟨_,rfl⟩
 have HR:=Lib.hid hR
 have HTP:=Lib.hid htp
 have HK:=Lib.hid hk
 rw [hR]
 clear hR htp hk
 have CT:∀(i:Nat) (wr:World) (_h:WS wr V),Calls Tryz.prog 55 #[V.ptr,.int .i64 (i:Int)] wr fun e w'=>e= .returned (.int .i64 (((V.at_ (i:Int)).map fun M=>M.pl.topA).getD 0))∧Upd [] [] wr w':=fun i wr h=>
  @worldTop ⟨[]⟩ _ _ _ _ (worldAt wr V h (i:Int)) (fun M hM=>h.sites M (by rw [WV.at_nat] at hM;exact List.mem_of_getElem? hM))
 rw [WV.ptr] at CT ⊢
 go_enter Tryz.func45,Tryz.ntmps45
 repeat' (first|go_values|go_skip|go_guarded|go_step|go_upon|(simp only [];go_at_K))
 go_loopw [5,6] (fun v5 v6 wr=>KeptW (∃i:Nat,i≤k∧v6= .int .i64 (i:Int)∧v5= .int .i64 (V.pl.topM i)∧WS wr V∧Upd [] [] w wr)) (fun _ v6 _=>k - (intOf v6).toNat)
 case atStart=>exact KeptW.mk ⟨0,by omega,rfl,rfl,h,Upd.refl _ _⟩
 case round=>
  obtain ⟨i,hi,rfl,rfl,hw,U⟩:=hrel.out
  clear hrel h
  by_cases hlt:i < k
  ·have hil:(i:Int) < (k:Int):=by omega
   have hw1:IntKind.i64.wrap ((i:Int) + 1)=(i:Int) + 1:=by rw [IntKind.wrap_i64];omega
   have C:=CT i wr hw
   obtain ⟨s,hs⟩:∃s,V.pl.ss[i]? =some s:=⟨_,List.getElem?_eq_getElem (by rw [HK.out];exact hlt)⟩
   rw [(V.seen hs).2.1] at C
   have e1:V.pl.topM (i + 1)=max (V.pl.topM i) s.topA:=by rw [Wd.topM,hs]
   have HE:=Lib.hid e1
   obtain ⟨a,ha⟩:∃a,s.topA=a:=⟨_,rfl⟩
   obtain ⟨b,hb⟩:∃b,V.pl.topM i=b:=⟨_,rfl⟩
   rw [ha,hb] at HE
   rw [ha] at C
   rw [hb]
   have KW:=Lib.hid (show WS wr V∧Upd [] [] w wr from ⟨hw,U⟩)
   clear CT hw U hs ha hb e1
   repeat' (first|go_values|go_skip|go_guarded|go_step|go_upon|(simp only [];go_at_K))
   ((with_reducible refine C.mono ?_);rintro e w2 ⟨rfl,u2⟩)
   have K2:=Lib.hid (show WS w2 V∧Upd [] [] w w2 from ⟨KW.out.1.upd0 u2,KW.out.2.trans u2⟩)
   clear C KW u2
   repeat' (first|go_values|go_skip|go_guarded|go_step|go_upon|(simp only [];go_at_K))
   exact ⟨KeptW.mk ⟨i + 1,by omega,by simp,by rw [HE.out],K2.out.1,K2.out.2⟩,by simp [intOf];omega⟩
  ·obtain rfl:i=k:=by omega
   have hil:¬ ((i:Int) < (i:Int)):=by omega
   have U':Upd V.fp V.fp w wr:=(U.up V.fp)
   have KW:=Lib.hid (show LkS w wr V V 0 from ⟨hw,.refl _,rfl,U',fun j hj=>by omega⟩)
   rw [HTP.out]
   clear CT hw U U'
   repeat' (first|go_values|go_skip|go_guarded|go_step|go_upon|(simp only [];go_at_K))
   go_loopw [7] (fun v7 wr=>KeptW (∃(j:Nat) (V':WV),j≤i∧v7= .int .i64 (j:Int)∧LkS w wr V V' j)) (fun v7 _=>i - (intOf v7).toNat)
   case atStart=>exact KeptW.mk ⟨0,V,by omega,rfl,KW.out⟩
   case round=>
    obtain ⟨j,V1,hj,rfl,hS⟩:=hrel.out
    clear hrel KW
    by_cases hlt:j < i
    case neg=>
     obtain rfl:j=i:=by omega
     have hil:¬ ((j:Int) < (j:Int)):=by omega
     have hRt:R=true:=by
      rw [←HR.out]
      unfold Wd.level
      rw [List.all_eq_true]
      exact fun x hx=>hS.lvl x (by have:=List.mem_range.1 hx;rw [HK.out] at this;exact this)
     subst hRt
     have KEY:=Lib.hid hS
     clear hS
     repeat' (first|go_values|go_skip|go_guarded|go_step|go_upon|(simp only [];go_at_K))
     go_ret
     exact ⟨V1,rfl,KEY.out.ws,KEY.out.tks,KEY.out.gw,KEY.out.up⟩
    have hil:(j:Int) < (i:Int):=by omega
    have hw1:IntKind.i64.wrap ((j:Int) + 1)=(j:Int) + 1:=by rw [IntKind.wrap_i64];omega
    obtain ⟨s,hs⟩:∃s,V.pl.ss[j]? =some s:=⟨_,List.getElem?_eq_getElem (by rw [HK.out];exact hlt)⟩
    obtain ⟨o,ho⟩:∃o,V.pl.ss[0]? =some o:=⟨_,List.getElem?_eq_getElem (by rw [HK.out];exact h0)⟩
    have hat:V.pl.lvlAt (V.pl.topM V.pl.ss.length) j=(decide (tp≤(s.front:Int)) && !s.down && decide (s.vals=o.vals)):=by
     unfold Wd.lvlAt
     rw [hs,ho,HK.out,HTP.out]
    have hno:V.pl.lvlAt (V.pl.topM V.pl.ss.length) j=false→R=false:=fun hf=>by
     rw [←HR.out]
     unfold Wd.level
     rw [Bool.eq_false_iff]
     intro hc
     rw [List.all_eq_true] at hc
     have:=hc j (List.mem_range.2 (by rw [HK.out];exact hlt))
     rw [hf] at this;cases this
    obtain ⟨s1,hs1,-,q2,q3,q4⟩:=hS.tks.look.2 j s hs
    obtain ⟨p1,-,p3⟩:=V1.seen hs1
    have hf4:s.vals.length≤4096:=by
     have h1:s1.front≤4096:=by
      have hs1:=hs1
      rw [V1.ss_pl] at hs1
      obtain ⟨M,hM,rfl⟩:=Option.map_eq_some_iff.1 hs1
      exact M.front_le (@SiteS.lrn ⟨[]⟩ _ _ (hS.ws.sites _ (List.mem_of_getElem? hM))).t
     have:=valsF_len s.val s.front
     unfold Site.vals
     omega
    have CF:=@worldFrontier ⟨[]⟩ _ _ _ _ (worldAt wr V1 hS.ws (j:Int)) (fun M hM=>hS.ws.sites M (by rw [WV.at_nat] at hM;exact List.mem_of_getElem? hM))
    have CD:=@worldDown ⟨[]⟩ _ _ _ _ (worldAt wr V1 hS.ws (j:Int)) (fun M hM=>hS.ws.sites M (by rw [WV.at_nat] at hM;exact List.mem_of_getElem? hM))
    rw [p1,q2,WV.ptr,hS.gw] at CF
    rw [p3,q3,WV.ptr,hS.gw] at CD
    obtain ⟨f,hf⟩:∃f,s.front=f:=⟨_,rfl⟩
    rw [hf] at CF hat
    have HAT:=Lib.hid hat
    have HNO:=Lib.hid hno
    have HS:=Lib.hid hS
    have HS1:=Lib.hid hs1
    have HQ:=Lib.hid q4
    have HO:=Lib.hid ho
    have HF4:=Lib.hid hf4
    clear hf4 hf hat hno hs ho hs1 q2 q3 q4 p1 p3
    by_cases g1:(f:Int) < tp
    ·have hRf:R=false:=HNO.out (by rw [HAT.out,decide_eq_false (by omega)];rfl)
     subst hRf
     have KEY:=Lib.hid HS.out
     clear HS hS CD
     repeat' (first|go_values|go_skip|go_guarded|go_step|go_upon|(simp only [];go_at_K))
     ((with_reducible refine CF.mono ?_);rintro e w2 ⟨rfl,rfl⟩)
     clear CF
     repeat' (first|go_values|go_skip|go_guarded|go_step|go_upon|(simp only [];go_at_K))
     go_ret
     exact ⟨V1,rfl,KEY.out.ws,KEY.out.tks,KEY.out.gw,KEY.out.up⟩
    cases hdn:s.down with
    | true=>
     have hRf:R=false:=HNO.out (by rw [HAT.out,hdn];simp)
     subst hRf
     rw [hdn] at CD
     have KEY:=Lib.hid HS.out
     clear HS hS hdn
     repeat' (first|go_values|go_skip|go_guarded|go_step|go_upon|(simp only [];go_at_K))
     ((with_reducible refine CF.mono ?_);rintro e w2 ⟨rfl,rfl⟩)
     clear CF
     repeat' (first|go_values|go_skip|go_guarded|go_step|go_upon|(simp only [];go_at_K))
     ((with_reducible refine CD.mono ?_);rintro e w2 ⟨rfl,rfl⟩)
     clear CD
     repeat' (first|go_values|go_skip|go_guarded|go_step|go_upon|(simp only [];go_at_K))
     go_ret
     exact ⟨V1,rfl,KEY.out.ws,KEY.out.tks,KEY.out.gw,KEY.out.up⟩
    | false=>
     rw [hdn] at CD
     have HDN:=Lib.hid hdn
     clear hdn
     have hD1:=hS.dinv hD
     have hl1:V1.pl.ss.length=i:=hS.tks.look.1.trans HK.out
     have C1:=worldDoneP wr V1 hS.ws hD1 j (by rw [hl1];exact hlt)
     have hj1:=hD1.doneAt HS1.out
     rw [hj1,HQ.out,WV.ptr,hS.gw] at C1
     clear hS hj1 hl1
     repeat' (first|go_values|go_skip|go_guarded|go_step|go_upon|(simp only [];go_at_K))
     ((with_reducible refine CF.mono ?_);rintro e w2 ⟨rfl,rfl⟩)
     clear CF
     repeat' (first|go_values|go_skip|go_guarded|go_step|go_upon|(simp only [];go_at_K))
     ((with_reducible refine CD.mono ?_);rintro e w2 ⟨rfl,rfl⟩)
     clear CD
     repeat' (first|go_values|go_skip|go_guarded|go_step|go_upon|(simp only [];go_at_K))
     ((with_reducible refine C1.mono ?_);rintro e w3 ⟨A3,c3,l3,V3,rfl,hl3,ho3,hA3,hx3,h3,hp3,hg3,u3⟩)
     clear C1
     have hD3:DInv V3.pl:=by rw [hp3];exact hD1.take j
     have t3:Wd.Tks V.pl V3.pl:=by rw [hp3];exact .take j HS.out.tks
     obtain ⟨o3,ho3',-,-,-,r4⟩:=t3.look.2 0 o HO.out
     have C2:=worldDoneP w3 V3 h3 hD3 0 (by rw [t3.look.1,HK.out];exact h0)
     rw [hD3.doneAt ho3',r4,WV.ptr,hg3,show ((0:Nat):Int)=0 from rfl] at C2
     have HO3:=Lib.hid ho3
     have HF3:=Lib.hid (show (∀q∈ablk A3,q∉V3.fp)∧∀x∈l3,∀q∈ablk x.A,q∉V3.fp from ⟨fun q hq=>(hA3 q hq).2,fun x hx q hq=>(hx3 x hx q hq).2⟩)
     have HL3:=Lib.hid hl3
     have HU3:=Lib.hid u3
     have HT3:=Lib.hid t3
     have HG3:=Lib.hid hg3
     clear ho3 hA3 hx3 hl3 u3 hp3 hD3 t3 ho3' r4 h3 hg3 hD1
     repeat' (first|go_values|go_skip|go_guarded|go_step|go_upon|(simp only [];go_at_K))
     ((with_reducible refine C2.mono ?_);rintro e w4 ⟨A4,c4,l4,V4,rfl,hl4,ho4,-,-,h4,hp4,hg4,u4⟩)
     clear C2
     have ho3:OwnS w4 A3 c3 l3:=HO3.out.turn u4 HF3.out.1 HF3.out.2
     have b3:l3.length≤1099511627776:=by
      have h1:=congrArg List.length HL3.out
      rw [List.length_map] at h1
      have:=HF4.out
      omega
     have CS:=ref12Same w4 A3 A4 c3 c4 l3 l4 ho3.rdr ho4.rdr b3
     rw [HL3.out,hl4] at CS
     obtain ⟨B,hB⟩:∃B,(s.vals == o.vals)=B:=⟨_,rfl⟩
     rw [hB] at CS
     have HB:=Lib.hid hB
     have K4:=Lib.hid (show WS w4 V4∧Wd.Tks V.pl V4.pl∧V4.gw=V.gw∧Upd V.fp V4.fp w w4 from ⟨h4,by rw [hp4];exact .take 0 HT3.out,hg4,(HS.out.up.trans HU3.out).trans u4⟩)
     clear ho3 ho4 b3 hl4 hB h4 hp4 hg4 u4
     repeat' (first|go_values|go_skip|go_guarded|go_step|go_upon|(simp only [];go_at_K))
     ((with_reducible refine CS.mono ?_);rintro e w5 ⟨rfl,u5⟩)
     obtain ⟨k1,k2,k3,k4⟩:=K4.out
     have K5:=Lib.hid (show WS w5 V4∧Wd.Tks V.pl V4.pl∧V4.gw=V.gw∧Upd V.fp V4.fp w w5 from ⟨k1.upd0 u5,k2,k3,k4.trans (u5.up V4.fp)⟩)
     have hatB:V.pl.lvlAt (V.pl.topM V.pl.ss.length) j=B:=by
      rw [HAT.out,decide_eq_true (show tp≤(f:Int) by omega),HDN.out,←HB.out]
      simp only [Bool.not_false,Bool.true_and]
      by_cases e:s.vals=o.vals
      ·rw [decide_eq_true e,e];exact (beq_self_eq_true _).symm
      ·rw [decide_eq_false e];exact (beq_eq_false_iff_ne.2 e).symm
     clear CS K4 u5 k1 k2 k3 k4
     cases B with
     | true=>
      repeat' (first|go_values|go_skip|go_guarded|go_step|go_upon|(simp only [];go_at_K))
      obtain ⟨k1,k2,k3,k4⟩:=K5.out
      exact ⟨KeptW.mk ⟨j + 1,V4,by omega,by simp,k1,k2,k3,k4,fun x hx=>by
       by_cases e:x=j
       ·rw [e];exact hatB
       ·exact HS.out.lvl x (by omega)⟩,by simp [intOf];omega⟩
     | false=>
      have hRf:R=false:=HNO.out hatB
      subst hRf
      repeat' (first|go_values|go_skip|go_guarded|go_step|go_upon|(simp only [];go_at_K))
      obtain ⟨k1,k2,k3,k4⟩:=K5.out
      go_ret
      exact ⟨V4,rfl,k1,k2,k3,k4⟩
end Go.Proofs.YtijhlbeipglieaaGreat
namespace Go.Proofs.YtijhlbeipglieaaGreat
open Go.RowKit Agio Go.Maps
structure KpS (w wr:World) (V:WV) (k c:Nat) (I:Wd→Prop) (A:Option Addr) (d:Nat) (l:List Bsl):Prop where
 ws:WS wr V
 inv:∃G,WInv V.pl k (fun _ _=>True) c G
 din:DInv V.pl
 is:I V.pl
 own:OwnS wr A d l
 far:(∀q∈ablk A,q∉V.fp)∧∀x∈l,∀q∈ablk x.A,q∉V.fp
 up:Upd [] V.fp w wr
namespace KpS
variable {w wr w':World} {V V':WV} {k c c':Nat} {I I':Wd→Prop} {A A':Option Addr} {d d':Nat} {l l':List Bsl}
theorem upd0 (h:KpS w wr V k c I A d l) {b:List Nat} (hu:Upd [] b wr w'):KpS w w' V k c I A d l:=
 ⟨h.ws.upd0 hu,h.inv,h.din,h.is,h.own.upd hu,h.far,h.up.trans (hu.up V.fp)⟩
theorem len (h:KpS w wr V k c I A d l):V.pl.ss.length=k:=by
 obtain ⟨G,h1⟩:=h.inv
 exact h1.len
theorem turn (h:KpS w wr V k c I A d l) (hw:WS w' V') (hu:Upd V.fp V'.fp wr w') (hi:∃G,WInv V'.pl k (fun _ _=>True) c' G) (hd:DInv V'.pl) (hI:I' V'.pl):KpS w w' V' k c' I' A d l:=
 ⟨hw,hi,hd,hI,h.own.turn hu h.far.1 h.far.2,⟨fun q hq=>hu.notin (h.far.1 q hq) (h.own.own.lt q hq),fun x hx q hq=>hu.notin (h.far.2 x hx q hq) ((h.own.each x hx).own.lt q hq)⟩,h.up.trans hu⟩
theorem wlv (h:KpS w wr V k c I A d l) {y:Nat} (hy:y≤c):WLv V.pl y:=by
 obtain ⟨G,h1⟩:=h.inv
 intro a s hs
 exact (h1.lv a s hs).less hy
theorem less (h:KpS w wr V k c I A d l) (hc:c'≤c):KpS w wr V k c' I A d l:=by
 obtain ⟨G,h1⟩:=h.inv
 exact ⟨h.ws,⟨G,h1.less hc⟩,h.din,h.is,h.own,h.far,h.up⟩
theorem did (h:KpS w wr V k (300 + c) I A d l) (hc:c≤400000000) (hw:WS w' V') (hu:Upd V.fp V'.fp wr w') {kk ss aa nn:Int} {v:List UInt8} (hp:V'.pl=(V.pl.do_ kk ss aa nn v).1) (hI:I' V'.pl):KpS w w' V' k c I' A d l:=by
 obtain ⟨G,h1⟩:=h.inv
 obtain ⟨G',-,h3⟩:=h1.do_ (P':=fun _ _=>True) hc kk ss aa nn v (fun _ _ h=>h) (fun _ _=>trivial)
 exact h.turn hw hu ⟨G',by rw [hp];exact h3⟩ (by rw [hp];exact h.din.do_ kk ss aa nn v) hI
theorem looked (h:KpS w wr V k c I A d l) (hw:WS w' V') (hu:Upd V.fp V'.fp wr w') (ht:Wd.Tks V.pl V'.pl) (hI:∀w i,I w→I (w.take i)):KpS w w' V' k c I A d l:=by
 obtain ⟨G,h1⟩:=h.inv
 exact h.turn hw hu ⟨G,ht.ind (I:=fun w=>WInv w k (fun _ _=>True) c G) (fun _ i h=>h.take i) h1⟩ (ht.ind (I:=DInv) (fun _ i h=>h.take i) h.din) (ht.ind hI h.is)
theorem round (h:KpS w wr V k (2002100 + c) I A d l) (h7:k≤7) (hw:WS w' V') (hu:Upd V.fp V'.fp wr w') (hp:V'.pl=V.pl.round.1) (hI:I' V'.pl):KpS w w' V' k c I' A d l:=by
 obtain ⟨G,h1⟩:=h.inv
 obtain ⟨G',-,h9⟩:=WInv.round (c:=c) (h1.less (d:=300 * k + 2000000 + c) (by omega))
 exact h.turn hw hu ⟨G',by rw [hp];exact h9⟩ (by rw [hp];exact h.din.round) hI
end KpS
theorem worldKeeps_any (w:World) (b:Nat) (hb:b < 256) (B:Option Addr) (n m:Nat) (l:List UInt8) (hl:RdB w B n l) (who:Nat) (hwho:who < 256) :
  Calls Tryz.prog 10 #[.int .u8 (b:Int),.slice B n m,.int .u8 (who:Int)] w fun e w'=>e= .returned (.bool true)∧Upd [] [] w w':=by
 have C1:=worldAwake w
 have C2:=fun w=>worldBegun w b hb
 have hll:n=l.length:=hl.len
 subst hll
 go_enter Tryz.func10,Tryz.ntmps10
 repeat' (first|go_values|go_skip|go_guarded|go_step|go_upon|(simp only [];go_at_K))
 ((with_reducible refine C1.mono ?_);rintro e w1 ⟨rfl,u1⟩)
 repeat' (first|go_values|go_skip|go_guarded|go_step|go_upon|(simp only [];go_at_K))
 ((with_reducible refine (C2 w1).mono ?_);rintro e w2 ⟨V,rfl,h2,hp2,hf2,u2⟩)
 clear C1 C2
 simp only [WV.ptr]
 repeat' (first|go_values|go_skip|go_guarded|go_step|go_upon|(simp only [];go_at_K))
 obtain ⟨k,hk⟩:∃k,cntW b=k:=⟨_,rfl⟩
 have hk7:k≤7:=by rw [←hk];unfold cntW;omega
 have hk3:3≤k:=by rw [←hk];unfold cntW;omega
 have UU:Upd [] V.fp w w2:=(u1.gives (b':=V.fp) (fun k hk=>.inr (by have:=hf2 k hk;have:=u1.size;omega))).trans (u2.mono (by simp) (fun k hk=>.inl hk))
 have START:=Lib.hid (show KpS w w2 V k (300 * (6 - 0) + 200000000) (PreW k 0 (fun _=>none)) none 0 [] from by
  refine ⟨h2,?_,by rw [hp2];exact DInv.new _ _,by rw [hp2,hk];exact PreW.new k,⟨Agio.Own.nil _ _ _,by simp⟩,by simp [ablk],UU⟩
  have:=newOkW b
  rw [hk] at this
  rw [hp2,hk]
  exact ⟨_,(WInv.new this _).less (by omega)⟩)
 rw [hk]
 clear hk hp2 hf2 u1 u2 h2 UU
 go_loopw [10,11] (fun v10 v11 wr=>KeptW (∃(i:Nat) (V':WV) (Vf:Nat→Option (List UInt8)),i≤l.length∧i≤6∧v10= .int .i64 (i:Int)∧v11= .int .i64 (i:Int)∧V'.gw=V.gw∧KpS w wr V' k (300 * (6 - i) + 200000000) (PreW k i Vf) none 0 [])) (fun _ v11 _=>6 - (intOf v11).toNat)
 case atStart=>exact KeptW.mk ⟨0,V,_,by omega,by omega,rfl,rfl,rfl,START.out⟩
 case round=>
  obtain ⟨i,V1,Vf,hin,hi6,rfl,rfl,hg,hS⟩:=hrel.out
  clear hrel START
  have UF:Upd [] [] w wr:=hS.up.gives (by simp)
  obtain ⟨D,hD⟩:∃D,(decide (i < l.length) && decide (i < 6))=D:=⟨_,rfl⟩
  have HDD:=Lib.hid hD
  clear hD
  go_upto_region 7 with fail
  go_cut [37] from 30 to 59 (fun s37 wc=>s37= .bool D∧wr=wc)
  case first=>
   by_cases h1:i < l.length
   ·have hd1:decide (i < l.length)=true:=decide_eq_true h1
    have hi1:(i:Int) < (l.length:Int):=by omega
    by_cases h2:i < 6
    ·have hd2:decide ((i:Int) < 6)=true:=decide_eq_true (by omega)
     clear hS
     repeat' (first|go_values|go_skip|go_guarded|go_step|go_upon|(simp only [];go_at_K))
     go_meet
     exact ⟨by rw [←HDD.out,hd1,decide_eq_true h2];rfl,rfl⟩
    ·have hd2:decide ((i:Int) < 6)=false:=decide_eq_false (by omega)
     clear hS
     repeat' (first|go_values|go_skip|go_guarded|go_step|go_upon|(simp only [];go_at_K))
     go_meet
     exact ⟨by rw [←HDD.out,decide_eq_false h2,Bool.and_false],rfl⟩
   ·have hd1:decide (i < l.length)=false:=decide_eq_false h1
    have hi1:¬ (i:Int) < (l.length:Int):=by omega
    clear hS
    repeat' (first|go_values|go_skip|go_guarded|go_step|go_upon|(simp only [];go_at_K))
    go_meet
    exact ⟨by rw [←HDD.out,hd1];rfl,rfl⟩
  case rest=>
   obtain ⟨rfl,hwc⟩:=hcut
   subst hwc
   cases D with
   | true=>
    have hj:i < l.length∧i < 6:=by have:=HDD.out;simpa using this
    obtain ⟨h1,h2⟩:=hj
    have hi1:(i:Int) < (l.length:Int):=by omega
    have hw1:IntKind.i64.wrap ((i:Int) + 1)=(i:Int) + 1:=by rw [IntKind.wrap_i64];omega
    have hw8:IntKind.u8.wrap (i:Int)=(i:Int):=by rw [IntKind.wrap_u8];omega
    obtain ⟨ad,u,rfl,hu,hcell⟩:=Rd.at_ (hl.upd UF (by simp)) (k:=i) h1
    rw [b8s_get l i h1] at hu
    injection hu with hu
    subst hu
    obtain ⟨x,hx⟩:∃x,l[i].toNat=x:=⟨_,rfl⟩
    rw [hx] at hcell
    have hx8:x < 256:=by rw [←hx];exact l[i].toNat_lt
    have hrem:(x:Int).tmod (k:Int)=((x % k:Nat):Int):=rfl
    have hxw:IntKind.i64.wrap (x:Int)=(x:Int):=by rw [IntKind.wrap_i64];omega
    clear hx
    obtain ⟨W3,B3,eW3,hB3,hBl,U3⟩:=boxes1 wr 5 #[.int .u8 (i:Int),.int .u8 9]
    have U3':=U3.gives (b':=[]) (by simp)
    have hv:RdB W3 (some ⟨B3,0,none⟩) 2 [UInt8.ofNat i,9]:=by
     have hbv:b8s [UInt8.ofNat i,9]= [.int .u8 (i:Int),.int .u8 9]:=by simp [b8s,B8];omega
     unfold RdB;rw [hbv];exact Rd.blk hBl rfl
    obtain ⟨s,hs⟩:∃s,x % k=s:=⟨_,rfl⟩
    have hsk:s < k:=by rw [←hs];exact Nat.mod_lt _ (by omega)
    rw [hs] at hrem
    have HDo:=Lib.hid (hS.is.submit hk3 hk7 (by omega) hsk (v:=[UInt8.ofNat i,9]) rfl 0 0)
    have C:=worldDo W3 V1 (hS.ws.upd0 U3') ⟨1,(s:Int),0,0,some ⟨B3,0,none⟩,2,2,[UInt8.ofNat i,9]⟩ (show (Lit.int .i64 1).wf=true by decide) hv (by simp) (hS.wlv (by omega))
    obtain ⟨⟨R1,R2,R3⟩,hR⟩:∃R,V1.pl.do_ 1 (s:Int) 0 0 [UInt8.ofNat i,9]=R:=⟨_,rfl⟩
    unfold HapC at C
    simp only at C
    rw [hR,WV.ptr,hg,Ev.val_eq] at C
    rw [hR] at HDo
    have HR:=Lib.hid hR
    have hR3:R3=0:=HDo.out.1
    subst hR3
    have HOW:=Lib.hid hS
    clear hR hs hx8
    repeat' (first|go_values|go_skip|go_guarded|go_step|go_upon|(simp only [];go_at_K))
    ((with_reducible refine C.mono ?_);rintro e w5 ⟨rfl,V5,h5,hp5,hg5,u5⟩)
    obtain ⟨-,Vf',hI5⟩:=HDo.out
    have hS0:KpS w W3 V1 k (300 + (300 * (6 - (i + 1)) + 200000000)) (PreW k i Vf) none 0 []:=by
     have e:300 + (300 * (6 - (i + 1)) + 200000000)=300 * (6 - i) + 200000000:=by omega
     rw [e];exact HOW.out.upd0 U3'
    have hS5:=hS0.did (by omega) h5 u5 (kk:=1) (ss:=(s:Int)) (aa:=0) (nn:=0) (v:=[UInt8.ofNat i,9]) (by rw [HR.out];exact hp5) (I':=PreW k (i + 1) Vf') (by rw [hp5];exact hI5)
    have KEY:=Lib.hid hS5
    clear C HDo HR HOW h5 hp5 u5 hS0 hS5 hI5
    repeat' (first|go_values|go_skip|go_guarded|go_step|go_upon|(simp only [];go_at_K))
    exact ⟨KeptW.mk ⟨i + 1,V5,Vf',by omega,by omega,by simp,by simp,by rw [hg5,hg],KEY.out⟩,by simp [intOf];omega⟩
   | false=>
    clear HDD UF
    obtain ⟨T,hp,hcnt,hz,hcon,hT0⟩:=hS.is.plan hk3 hk7 hi6
    obtain ⟨p,hpp⟩:∃p,Plan.mk k T Vf=p:=⟨_,rfl⟩
    have hpn:p.n=k:=by rw [←hpp]
    have hcnt:cntV p.V p.T=i:=by rw [←hpp];exact hcnt
    have hrnd:∀w:Wd,PreW k i Vf w→LW p w.round.1:=fun w h=>by
     rw [←hpp]
     exact (h.round hi6 hp hz hcon).level hp
    rw [hpp] at hp
    have hI0:(0 < i∧PreW k i Vf V1.pl)∨LW p V1.pl:=by
     rcases Nat.eq_zero_or_pos i with e | e
     ·right
      subst e
      rw [←hpp,hT0 rfl]
      exact hS.is.lw0
     ·exact .inl ⟨e,hS.is⟩
    have HP:=Lib.hid hp
    have HC:=Lib.hid hcnt
    have HN:=Lib.hid hpn
    have HRD:=Lib.hid hrnd
    have S2:=Lib.hid (show KpS w wr V1 k (2010000 * (40 - 0) + 100000000) (fun w=>(0=0∧0 < i∧PreW k i Vf w)∨LW p w) none 0 [] from by
     have:=hS.less (c':=2010000 * (40 - 0) + 100000000) (by omega)
     exact ⟨this.ws,this.inv,this.din,hI0.imp (fun h=>⟨rfl,h⟩) id,this.own,this.far,this.up⟩)
    clear hS hp hcnt hpn hrnd hI0 hz hcon hpp hT0
    repeat' (first|go_values|go_skip|go_guarded|go_step|go_upon|(simp only [];go_at_K))
    go_loopw [14] (fun v14 wr=>KeptW (∃(j:Nat) (V':WV),j≤40∧v14= .int .i64 (j:Int)∧V'.gw=V.gw∧KpS w wr V' k (2010000 * (40 - j) + 100000000) (fun w=>(j=0∧0 < i∧PreW k i Vf w)∨LW p w) none 0 [])) (fun v14 _=>40 - (intOf v14).toNat)
    case atStart=>exact KeptW.mk ⟨0,V1,by omega,rfl,hg,S2.out⟩
    case round=>
     obtain ⟨j,V2,hj40,rfl,hg2,hS⟩:=hrel.out
     clear hrel S2
     obtain ⟨cj,hcj⟩:∃cj,2010000 * (40 - j) + 100000000=cj:=⟨_,rfl⟩
     rw [hcj] at hS
     have HCJ:=Lib.hid hcj
     clear hcj
     go_upto_region 14 with fail
     go_cut [67] from 60 to 71 (fun s67 wc=>KeptW (∃(V3:WV) (D:Bool),s67= .bool D∧V3.gw=V.gw∧(D=true→j < 40∧KpS w wc V3 k cj (PreW k i Vf) none 0 [])∧(D=false→KpS w wc V3 k cj (LW p) none 0 [])))
     case first=>
      by_cases hj:j < 40
      ·have hji:decide ((j:Int) < 40)=true:=decide_eq_true (by omega)
       have CL:=worldLevel wr V2 hS.ws hS.din k hS.len (by omega) hk7
       rw [WV.ptr,hg2] at CL
       obtain ⟨L,hL⟩:∃L,V2.pl.level=L:=⟨_,rfl⟩
       have HL:=Lib.hid hL
       rw [hL] at CL
       have HS:=Lib.hid hS
       clear hS hL
       repeat' (first|go_values|go_skip|go_guarded|go_step|go_upon|(simp only [];go_at_K))
       ((with_reducible refine CL.mono ?_);rintro e w3 ⟨V3,rfl,h3,t3,hg3,u3⟩)
       have KEY:=Lib.hid (show (!L)=true→j < 40∧KpS w w3 V3 k cj (PreW k i Vf) none 0 [] from fun hLf=>by
        have hS:=HS.out
        rcases hS.is with ⟨-,hi0,h⟩ | h
        ·exact ⟨hj,(KpS.mk hS.ws hS.inv hS.din h hS.own hS.far hS.up).looked h3 u3 t3 fun w a h=>h.take a⟩
        ·have:=h.lvl HP.out hS.din
         rw [HL.out] at this
         subst this
         simp at hLf)
       have KEY2:=Lib.hid (show (!L)=false→KpS w w3 V3 k cj (LW p) none 0 [] from fun hLf=>by
        have hS:=HS.out
        rcases hS.is with ⟨-,hi0,h⟩ | h
        ·have:=h.lvl hk3
         rw [HL.out,decide_eq_false (by omega)] at this
         subst this
         simp at hLf
        ·exact (KpS.mk hS.ws hS.inv hS.din h hS.own hS.far hS.up).looked h3 u3 t3 fun w a h=>h.take a)
       clear CL HS h3 t3 u3
       repeat' (first|go_values|go_skip|go_guarded|go_step|go_upon|(simp only [];go_at_K))
       go_meet
       exact KeptW.mk ⟨V3,!L,by simp,hg3,KEY.out,KEY2.out⟩
      ·have hji:decide ((j:Int) < 40)=false:=decide_eq_false (by omega)
       have KEY:=Lib.hid (show KpS w wr V2 k cj (LW p) none 0 [] from by
        rcases hS.is with ⟨e,-⟩ | h
        ·omega
        ·exact ⟨hS.ws,hS.inv,hS.din,h,hS.own,hS.far,hS.up⟩)
       clear hS
       repeat' (first|go_values|go_skip|go_guarded|go_step|go_upon|(simp only [];go_at_K))
       go_meet
       exact KeptW.mk ⟨V2,false,rfl,hg2,fun h=>(by cases h),fun _=>KEY.out⟩
     case rest=>
      obtain ⟨V3,D,rfl,hg3,hT,hF⟩:=hcut.out
      clear hcut hS
      cases D with
      | true=>
       obtain ⟨hj,hS3⟩:=hT rfl
       have hw1:IntKind.i64.wrap ((j:Int) + 1)=(j:Int) + 1:=by rw [IntKind.wrap_i64];omega
       have C:=worldRound wc V3 hS3.ws (by obtain ⟨G,hI⟩:=hS3.inv;exact (hI.less (d:=300 * k + 2000000) (by have:=HCJ.out;omega)).roundOk)
       rw [WV.ptr,hg3] at C
       have HOW:=Lib.hid hS3
       clear hS3 hT hF
       repeat' (first|go_values|go_skip|go_guarded|go_step|go_upon|(simp only [];go_at_K))
       ((with_reducible refine C.mono ?_);rintro e w5 ⟨rfl,V5,h5,hp5,hg5,u5⟩)
       have hS5:=(HOW.out.less (c':=2002100 + (2010000 * (40 - (j + 1)) + 100000000)) (by have:=HCJ.out;omega)).round hk7 h5 u5 hp5 (I':=fun w=>(j + 1=0∧0 < i∧PreW k i Vf w)∨LW p w) (.inr (by rw [hp5];exact HRD.out _ HOW.out.is))
       have KEY:=Lib.hid hS5
       clear C HOW h5 hp5 u5 hS5
       repeat' (first|go_values|go_skip|go_guarded|go_step|go_upon|(simp only [];go_at_K))
       exact ⟨KeptW.mk ⟨j + 1,V5,by omega,by simp,by rw [hg5,hg3],KEY.out⟩,by simp [intOf];omega⟩
      | false=>
       have hS3:=hF rfl
       clear hT hF
       obtain ⟨a,ha⟩:∃a,who % k=a:=⟨_,rfl⟩
       have hak:a < k:=by rw [←ha];exact Nat.mod_lt _ (by omega)
       have hrem:(who:Int).tmod (k:Int)=(a:Int):=by rw [←ha];rfl
       have hxw:IntKind.i64.wrap (who:Int)=(who:Int):=by rw [IntKind.wrap_i64];omega
       clear ha
       have hal:a < V3.pl.ss.length:=by rw [hS3.len];exact hak
       have C:=worldDoneP wc V3 hS3.ws hS3.din a hal
       rw [hS3.din.doneAt (List.getElem?_eq_getElem hal),(hS3.is.full a _ (List.getElem?_eq_getElem hal)).1.vals_eq HP.out (hS3.din.tk (List.getElem?_eq_getElem hal)),WV.ptr,hg3] at C
       have HS3:=Lib.hid hS3
       clear hS3 hal
       repeat' (first|go_values|go_skip|go_guarded|go_step|go_upon|(simp only [];go_at_K))
       ((with_reducible refine C.mono ?_);rintro e w4 ⟨A4,c4,l4,V4,rfl,hl4,ho4,hA4,hx4,h4,hp4,hg4,u4⟩)
       have hli:i=l4.length:=by
        have h1:=congrArg List.length hl4
        rw [List.length_map,valsF_cnt HP.out,HC.out] at h1
        exact h1.symm
       have K4:=HS3.out.looked h4 u4 (by rw [hp4];exact .take a (.refl _)) (fun w b h=>h.take b)
       have S4:=Lib.hid (show KpS w w4 V4 k cj (LW p) A4 c4 l4 from ⟨K4.ws,K4.inv,K4.din,K4.is,ho4,⟨fun q hq=>(hA4 q hq).2,fun x hx q hq=>(hx4 x hx q hq).2⟩,K4.up⟩)
       have HL4:=Lib.hid hl4
       clear C HS3 hl4 ho4 hA4 hx4 h4 hp4 u4 K4
       subst hli
       go_upto_region 19 with fail
       go_cut [86] from 79 to 116 (fun s86 wd=>s86= .bool false∧w4=wd)
       case first=>
        by_cases h0:0 < l4.length
        ·have d0:decide ((0:Int) < (l4.length:Int))=true:=decide_eq_true (by omega)
         have d1:decide (0 < l4.length)=true:=decide_eq_true h0
         repeat' (first|go_values|go_skip|go_guarded|go_step|go_upon|(simp only [];go_at_K))
         go_meet
         exact ⟨by simp,rfl⟩
        ·have d0:decide ((0:Int) < (l4.length:Int))=false:=decide_eq_false (by omega)
         have d1:decide (0 < l4.length)=false:=decide_eq_false h0
         repeat' (first|go_values|go_skip|go_guarded|go_step|go_upon|(simp only [];go_at_K))
         go_meet
         exact ⟨by simp,rfl⟩
       case rest=>
        obtain ⟨rfl,hwd⟩:=hcut
        subst hwd
        have C:=worldDo w4 V4 S4.out.ws ⟨7,(a:Int),0,0,none,0,0,[]⟩ (show (Lit.int .i64 7).wf=true by decide) (RdB.nil _ _) (by simp) (S4.out.wlv (by have:=HCJ.out;omega))
        obtain ⟨⟨R1,R2,R3⟩,hR⟩:∃R,V4.pl.do_ 7 (a:Int) 0 0 []=R:=⟨_,rfl⟩
        unfold HapC at C
        simp only at C
        rw [hR,WV.ptr,hg4,Ev.val_eq] at C
        have HR:=Lib.hid hR
        clear hR
        repeat' (first|go_values|go_skip|go_guarded|go_step|go_upon|(simp only [];go_at_K))
        ((with_reducible refine C.mono ?_);rintro e w5 ⟨rfl,V5,h5,hp5,hg5,u5⟩)
        have S5:=Lib.hid ((S4.out.less (c':=300 + (300 + 90000000)) (by have:=HCJ.out;omega)).did (by omega) h5 u5 (kk:=7) (ss:=(a:Int)) (aa:=0) (nn:=0) (v:=[]) (by rw [HR.out];exact hp5) (I':=fun w=>w=(V4.pl.do_ 7 (a:Int) 0 0 []).1) (by rw [HR.out];exact hp5))
        clear C h5 hp5 u5 HR
        have C:=worldDo w5 V5 S5.out.ws ⟨8,(a:Int),0,0,none,0,0,[]⟩ (show (Lit.int .i64 8).wf=true by decide) (RdB.nil _ _) (by simp) (S5.out.wlv (by omega))
        obtain ⟨⟨R1,R2,R3⟩,hR⟩:∃R,V5.pl.do_ 8 (a:Int) 0 0 []=R:=⟨_,rfl⟩
        unfold HapC at C
        simp only at C
        rw [hR,WV.ptr,hg5,hg4,Ev.val_eq] at C
        have HR:=Lib.hid hR
        clear hR
        repeat' (first|go_values|go_skip|go_guarded|go_step|go_upon|(simp only [];go_at_K))
        ((with_reducible refine C.mono ?_);rintro e w6 ⟨rfl,V6,h6,hp6,hg6,u6⟩)
        have hPR:PR p a 0 V6.pl:=by
         have h1:=S5.out.is
         have h2:V6.pl=R1:=hp6
         have h3:(V5.pl.do_ 8 (a:Int) 0 0 []).1=R1:=by rw [HR.out]
         obtain ⟨G,hI⟩:=S4.out.inv
         rw [h2,←h3,h1]
         exact S4.out.is.back (P:=fun _ _=>True) (by rw [HN.out];exact hI) (by rw [HN.out];exact hak) _ _ _ _ _ _ rfl
        have S6:=Lib.hid (show KpS w w6 V6 k (2010000 * (40 - 0)) (PR p a (16 * 0)) A4 c4 l4 from (S5.out.did (by omega) h6 u6 (kk:=8) (ss:=(a:Int)) (aa:=0) (nn:=0) (v:=[]) (by rw [HR.out];exact hp6) (I':=PR p a (16 * 0)) hPR).less (by omega))
        clear C h6 hp6 u6 HR S4 S5 hPR
        repeat' (first|go_values|go_skip|go_guarded|go_step|go_upon|(simp only [];go_at_K))
        go_loopw [17] (fun v17 wr=>KeptW (∃(x:Nat) (V':WV),x≤40∧v17= .int .i64 (x:Int)∧V'.gw=V.gw∧KpS w wr V' k (2010000 * (40 - x)) (PR p a (16 * x)) A4 c4 l4)) (fun v17 _=>40 - (intOf v17).toNat)
        case atStart=>exact KeptW.mk ⟨0,V6,by omega,rfl,by rw [hg6,hg5,hg4],S6.out⟩
        case round=>
         obtain ⟨x,V2,hx40,rfl,hg2,hS⟩:=hrel.out
         clear hrel S6
         have hal:∀{V:WV} {wq:World} {cc:Nat} {I:Wd→Prop},KpS w wq V k cc I A4 c4 l4→a < V.pl.ss.length:=fun h=>by rw [h.len];exact hak
         go_upto_region 24 with fail
         go_cut [104] from 95 to 108 (fun s104 wc=>KeptW (∃(V3:WV) (D:Bool),s104= .bool D∧V3.gw=V.gw∧KpS w wc V3 k (2010000 * (40 - x)) (PR p a (16 * x)) A4 c4 l4∧(D=true→x < 40)∧(D=false→∀s,V3.pl.ss[a]? =some s→s.vals=valsF p.val p.T)))
         case first=>
          by_cases hj:x < 40
          ·have hji:decide ((x:Int) < 40)=true:=decide_eq_true (by omega)
           have hs:=List.getElem?_eq_getElem (hal hS)
           have C:=worldDoneP wr V2 hS.ws hS.din a (hal hS)
           rw [hS.din.doneAt hs,WV.ptr,hg2] at C
           obtain ⟨s,hse⟩:∃s,V2.pl.ss[a]'(hal hS)=s:=⟨_,rfl⟩
           rw [hse] at hs C
           have HSE:=Lib.hid hs
           have HS:=Lib.hid hS
           clear hS hs hse
           repeat' (first|go_values|go_skip|go_guarded|go_step|go_upon|(simp only [];go_at_K))
           ((with_reducible refine C.mono ?_);rintro e w5 ⟨A5,c5,l5,V5,rfl,hl5,-,-,-,h5,hp5,hg5',u5⟩)
           have K5:=HS.out.looked h5 u5 (by rw [hp5];exact .take a (.refl _)) (fun w b h=>h.take b)
           obtain ⟨D,hD⟩:∃D,decide (l5.length < l4.length)=D:=⟨_,rfl⟩
           have hDi:decide ((l5.length:Int) < (l4.length:Int))=D:=by rw [←hD];simp
           have KEY:=Lib.hid (show D=false→∀s,V5.pl.ss[a]? =some s→s.vals=valsF p.val p.T from fun hDf s' hs'=>by
            refine K5.is.vals HP.out hs' (.inr ?_)
            obtain ⟨t,ht,-,-,-,hv⟩:=(show Wd.Tks V2.pl V5.pl by rw [hp5];exact .take a (.refl _)).look.2 a s HSE.out
            rw [hs'] at ht;injection ht with ht
            rw [HC.out,ht,hv,←hl5,List.length_map]
            have:=of_decide_eq_false (hD.trans hDf)
            omega)
           have K5:=Lib.hid K5
           clear C HS hl5 h5 hp5 u5 HSE
           repeat' (first|go_values|go_skip|go_guarded|go_step|go_upon|(simp only [];go_at_K))
           go_meet
           exact KeptW.mk ⟨V5,D,by rw [←hDi],by rw [hg5'],K5.out,fun _=>hj,KEY.out⟩
          ·have hji:decide ((x:Int) < 40)=false:=decide_eq_false (by omega)
           have KEY:=Lib.hid (show ∀s,V2.pl.ss[a]? =some s→s.vals=valsF p.val p.T from fun s hs=>hS.is.vals HP.out hs (.inl (by have:=HP.out.T;have:=HP.out.n7;omega)))
           have HS:=Lib.hid hS
           clear hS
           repeat' (first|go_values|go_skip|go_guarded|go_step|go_upon|(simp only [];go_at_K))
           go_meet
           exact KeptW.mk ⟨V2,false,rfl,hg2,HS.out,fun h=>(by cases h),fun _=>KEY.out⟩
         case rest=>
          obtain ⟨V3,D,rfl,hg3',hS3,hT,hF⟩:=hcut.out
          clear hcut hS
          cases D with
          | true=>
           have hj:=hT rfl
           have hw1:IntKind.i64.wrap ((x:Int) + 1)=(x:Int) + 1:=by rw [IntKind.wrap_i64];omega
           have C:=worldRound wc V3 hS3.ws (by obtain ⟨G,hI⟩:=hS3.inv;exact (hI.less (d:=300 * k + 2000000) (by omega)).roundOk)
           rw [WV.ptr,hg3'] at C
           have HOW:=Lib.hid hS3
           clear hS3 hT hF
           repeat' (first|go_values|go_skip|go_guarded|go_step|go_upon|(simp only [];go_at_K))
           ((with_reducible refine C.mono ?_);rintro e w5 ⟨rfl,V5,h5,hp5,hg5',u5⟩)
           have hPR:PR p a (16 * (x + 1)) V5.pl:=by
            obtain ⟨G,hI⟩:=HOW.out.inv
            rw [hp5]
            exact HOW.out.is.round (c:=0) HP.out (by rw [HN.out];exact hak) (P:=fun _ _=>True) (G:=G) (by rw [HN.out];exact hI.less (by omega))
           have KEY:=Lib.hid ((HOW.out.less (c':=2002100 + 2010000 * (40 - (x + 1))) (by omega)).round hk7 h5 u5 hp5 (I':=PR p a (16 * (x + 1))) hPR)
           clear C HOW h5 hp5 u5 hPR
           repeat' (first|go_values|go_skip|go_guarded|go_step|go_upon|(simp only [];go_at_K))
           exact ⟨KeptW.mk ⟨x + 1,V5,by omega,by simp,by rw [hg5',hg3'],KEY.out⟩,by simp [intOf];omega⟩
          | false=>
           have hs:=List.getElem?_eq_getElem (hal hS3)
           have C:=worldDoneP wc V3 hS3.ws hS3.din a (hal hS3)
           rw [hS3.din.doneAt hs,hF rfl _ hs,WV.ptr,hg3'] at C
           have HOW:=Lib.hid hS3
           clear hS3 hT hF hs
           repeat' (first|go_values|go_skip|go_guarded|go_step|go_upon|(simp only [];go_at_K))
           ((with_reducible refine C.mono ?_);rintro e w5 ⟨A5,c5,l5,V5,rfl,hl5,ho5,-,-,h5,hp5,hg5',u5⟩)
           have ho4:=HOW.out.own.turn u5 HOW.out.far.1 HOW.out.far.2
           have U5:Upd [] [] w w5:=(HOW.out.up.trans u5).gives (by simp)
           have b5:l5.length≤1099511627776:=by
            have h1:=congrArg List.length hl5
            have h2:=valsF_len p.val p.T
            have:=HP.out.T;have:=HP.out.n7
            rw [List.length_map] at h1
            omega
           have CS:=ref12Same w5 A5 A4 c5 c4 l5 l4 ho5.rdr ho4.rdr b5
           rw [hl5,HL4.out,beq_self_eq_true] at CS
           have HU:=Lib.hid U5
           clear C HOW hl5 ho5 ho4 h5 hp5 u5 U5 b5
           repeat' (first|go_values|go_skip|go_guarded|go_step|go_upon|(simp only [];go_at_K))
           ((with_reducible refine CS.mono ?_);rintro e w6 ⟨rfl,u6⟩)
           have U6:=HU.out.trans u6
           clear CS HU u6
           repeat' (first|go_values|go_skip|go_guarded|go_step|go_upon|(simp only [];go_at_K))
           go_ret
           exact ⟨rfl,U6⟩
end Go.Proofs.YtijhlbeipglieaaGreat
