/- For WorldCalm. -/
import Derived.Test.YtijhlbeipglieaaGreatPkWrldT
set_option linter.all false
set_option maxRecDepth 100000
set_option maxHeartbeats 8000000
namespace Go.Proofs.YtijhlbeipglieaaGreat
open Go.RowKit aL Go.Maps Go.Proofs.Tryz List
def fv(k hb:Nat):Value:=.func (.func k) #[] #[.pointer (some ⟨hb,0,none⟩)]
def iU(hb d:Nat):Value:=.func (.func 172) #[] #[.pointer (some ⟨hb,0,none⟩),.pointer (some ⟨d,0,none⟩)]
theorem sZ(w:World)(hb k:Nat) :
    Calls prog 171 #[fv k hb,.pointer (some ⟨hb,0,none⟩)] w fun e w'=>∃d,e=.returned (iU hb d)∧aQ w' d 178 #[fv k hb]∧d<w'.heap.size∧ab [] [d] w w':=by
  unfold fv iU
  go_enter func171,ntmps171
  repeat' first|go_values|go_skip|go_guarded|go_step|go_upon|simp only[];go_at_K
  go_ret
  exact⟨w.heap.size,rfl,aQ.new _ _ _,by simp,((ab.refl [] w).alloc _).gives (by simp)⟩
def pB(k:Nat):Prop:=k=173∨k=179∨k=180∨k=181∨k=182
theorem OS(w:World)(V:WV)(h:WS w V)(hb:Nat)(hB:kT w hb V)(x:Ev)(d:Nat)(hn:V.at_ x.s=none) :
    Calls prog 172 #[x.val,.pointer (some ⟨hb,0,none⟩),.pointer (some ⟨d,0,none⟩)] w fun e w'=>e=.returned (.tuple #[.int .i64 0,.int .i64 1])∧ab [] [] w w':=by
  obtain⟨W,H,eW,hH,fh,U0⟩:=cb w 85 #[.int .i64 x.k,.int .i64 x.s,.int .i64 x.at_,.int .i64 x.n,.slice x.A x.l x.c]
  have cv:=U0.gives (b':=[]) (by simp)
  have C:=lR W V (h.aN cv) x.s
  rw[hn,WV.ptr]at C
  have a:W.cell? ⟨hb,0,none⟩=some (.pointer (some ⟨V.gw,0,none⟩)):=(aQ.aq hB cv (by simp)).cell 0
  have c:W.cell? ⟨H,1,none⟩=some (.int .i64 x.s):=fh.cell 1
  simp only[kS]at C
  rw[Ev.bJ]
  clear h hB fh hn
  go_enter func172,ntmps172
  repeat' first|go_values|go_skip|go_guarded|go_step|go_upon|simp only[];go_at_K
  refine C.mono ?_;rintro e w1 ⟨rfl,rfl⟩
  repeat' first|go_values|go_skip|go_guarded|go_step|go_upon|simp only[];go_at_K
  go_ret2
  exact⟨rfl,cv⟩
theorem Lw(w:World)(V:WV)(h:WS w V)(hb:Nat)(hB:kT w hb V)(x:Ev)(d k:Nat)(hk:pB k)(hD:aQ w d 178 #[fv k hb])(i:Nat)(hs:x.s=(i:Int))(M:ae)(hM:V.ss[i]? =some M)(r f:Int)(p:Wd)(C1:∀w1,ab [] [] w w1→Calls prog k #[x.val,.pointer (some ⟨hb,0,none⟩)] w1 fun e w'=>e=.returned (.tuple #[.int .i64 r,.int .i64 f])∧fA w1 w' V p) :
    Calls prog 172 #[x.val,.pointer (some ⟨hb,0,none⟩),.pointer (some ⟨d,0,none⟩)] w fun e w'=>e=.returned (.tuple #[.int .i64 r,.int .i64 f])∧fA w w' V p:=by
  obtain⟨W,H,eW,hH,fh,U0⟩:=cb w 85 #[.int .i64 x.k,.int .i64 x.s,.int .i64 x.at_,.int .i64 x.n,.slice x.A x.l x.c]
  have cv:=U0.gives (b':=[]) (by simp)
  have C:=lR W V (h.aN cv) x.s
  have hn:V.at_ x.s=some M:=by rw[hs,WV.mu];exact hM
  rw[hn,WV.ptr]at C
  have a:W.cell? ⟨hb,0,none⟩=some (.pointer (some ⟨V.gw,0,none⟩)):=(aQ.aq hB cv (by simp)).cell 0
  obtain⟨⟨c0,c,c2,c3,c4⟩,-⟩:=fh.c5
  have g:W.cell? ⟨d,0,none⟩=some (fv k hb):=(hD.aq cv (by simp)).cell 0
  have C1:=C1 W cv
  simp only[kS,ae.ptr]at C
  rw[Ev.bJ]at C1 ⊢
  unfold fv at g
  clear h hB fh hn hD hM hs
  rcases hk with rfl|rfl|rfl|rfl|rfl
  all_goals
    go_enter func172,ntmps172
    repeat' first|go_values|go_skip|go_guarded|go_step|go_upon|simp only[];go_at_K
    refine C.mono ?_;rintro e w1 ⟨rfl,rfl⟩
    repeat' first|go_values|go_skip|go_guarded|go_step|go_upon|simp only[];go_at_K
    refine C1.mono ?_;rintro e w1 ⟨rfl,hg⟩
    repeat' first|go_values|go_skip|go_guarded|go_step|go_upon|simp only[];go_at_K
    go_ret2
    exact⟨rfl,hg.pre cv⟩
def GA(hb d1 d5 d6 d7 d8:Nat):List (Int × Value):=[(1,iU hb d1),(2,fv 174 hb),(3,fv 176 hb),(4,fv 177 hb),(5,iU hb d5),(6,iU hb d6),(7,iU hb d7),(8,iU hb d8)]
theorem Rj(w:World)(gw:Nat) :
    Calls prog 105 #[.pointer (some ⟨gw,0,none⟩)] w fun e w'=>∃hb bm d1 d5 d6 d7 d8,e=.returned (.map (some bm))∧cz prog 3 w' bm (GA hb d1 d5 d6 d7 d8)∧aQ w' hb 77 #[.pointer (some ⟨gw,0,none⟩)]∧
      aQ w' d1 178 #[fv 173 hb]∧aQ w' d5 178 #[fv 179 hb]∧aQ w' d6 178 #[fv 180 hb]∧
      aQ w' d7 178 #[fv 181 hb]∧aQ w' d8 178 #[fv 182 hb]∧ab [] [] w w':=by
  have si:=@run_makeMap prog
  have oj:=aQ.new w 77 #[.pointer (some ⟨gw,0,none⟩)]
  obtain⟨W0,hW0⟩:∃X,w.alloc (.cells #[.pointer (some ⟨gw,0,none⟩)] 77)=X:=⟨_,rfl⟩
  have U0:ab [] [] w W0:=by rw[←hW0];exact(ab.refl [] w).alloc _
  rw[hW0]at oj
  obtain⟨hb,Zi⟩:=bk w.heap.size
  have jW:=cz.made prog 3 W0
  obtain⟨W1,hW1⟩:∃X,W0.alloc (.map #[] 0)=X:=⟨_,rfl⟩
  have U1:ab [] [] W0 W1:=by rw[←hW1];exact(ab.refl [] W0).alloc _
  have gh:=oj.alloc (.map #[] 0)
  rw[hW1]at jW gh
  obtain⟨bm,iq⟩:=bk W0.heap.size
  rw[iq]at jW
  rw[Zi]at gh
  have wD:w.heap.size≤bm:=by rw[←iq];exact U0.size
  have hbl:hb<bm:=by have:=oj.lt;rw[iq,Zi]at this;exact this
  clear oj
  go_enter func105,ntmps105
  repeat' first|go_values|go_skip|go_guarded|go_step|go_upon|simp only[];go_at_K
  clear si hW0 hW1 iq Zi
  have UA:ab [] [] w W1:=U0.trans U1
  clear U0 U1
  have hB:=gh
  clear gh
  have C:=sZ W1 hb 173
  unfold fv at C
  refine C.mono ?_;rintro e Wc1 ⟨d1,rfl,fD,fR,hu⟩
  have jX:bm≠d1:=by have h1:=(hu.fresh d1 (by simp)).resolve_left (by simp);have:=jW.lt;omega
  have hB:=hB.aq hu (by simp)
  have hM:=jW.aq hu (by simp)
  have UA:=UA.trans (hu.gives (b':=[]) (by simp))
  clear C hu
  repeat' (fail_if_success with_reducible refine ba rfl ?_);first|go_values|go_skip|go_guarded|go_step|go_upon|simp only[];go_at_K
  obtain⟨Wi1,hrun,jL,hu⟩:=hM.store underlying3 underlying179 (by simp[maxLen]) (x:=1) (by decide) (iU hb d1)
  rw[hrun]
  repeat' (fail_if_success with_reducible refine ba rfl ?_);first|go_values|go_skip|go_guarded|go_step|go_upon|simp only[];go_at_K
  have hB:=hB.aq hu (by simp only[mem_singleton];omega)
  have fD:=fD.aq hu (by simp only[mem_singleton];omega)
  have UA:ab [] [] w Wi1:=UA.mG (X:=[bm]) (Y:=[bm]) (by simpa using wD) hu
  have hM:cz prog 3 Wi1 bm [(1,iU hb d1)]:=jL
  clear hu jL hrun
  obtain⟨Wi2,hrun,jL,hu⟩:=hM.store underlying3 underlying179 (by simp[maxLen]) (x:=2) (by decide) (.func (.func 174) #[] #[.pointer (some ⟨hb,0,none⟩)])
  rw[hrun]
  repeat' (fail_if_success with_reducible refine ba rfl ?_);first|go_values|go_skip|go_guarded|go_step|go_upon|simp only[];go_at_K
  have hB:=hB.aq hu (by simp only[mem_singleton];omega)
  have fD:=fD.aq hu (by simp only[mem_singleton];omega)
  have UA:ab [] [] w Wi2:=UA.mG (X:=[bm]) (Y:=[bm]) (by simpa using wD) hu
  have hM:cz prog 3 Wi2 bm [(1,iU hb d1),(2,fv 174 hb)]:=jL
  clear hu jL hrun
  obtain⟨Wi3,hrun,jL,hu⟩:=hM.store underlying3 underlying179 (by simp[maxLen]) (x:=3) (by decide) (.func (.func 176) #[] #[.pointer (some ⟨hb,0,none⟩)])
  rw[hrun]
  repeat' (fail_if_success with_reducible refine ba rfl ?_);first|go_values|go_skip|go_guarded|go_step|go_upon|simp only[];go_at_K
  have hB:=hB.aq hu (by simp only[mem_singleton];omega)
  have fD:=fD.aq hu (by simp only[mem_singleton];omega)
  have UA:ab [] [] w Wi3:=UA.mG (X:=[bm]) (Y:=[bm]) (by simpa using wD) hu
  have hM:cz prog 3 Wi3 bm [(1,iU hb d1),(2,fv 174 hb),(3,fv 176 hb)]:=jL
  clear hu jL hrun
  obtain⟨Zj,hrun,jL,hu⟩:=hM.store underlying3 underlying179 (by simp[maxLen]) (x:=4) (by decide) (.func (.func 177) #[] #[.pointer (some ⟨hb,0,none⟩)])
  rw[hrun]
  repeat' first|go_values|go_skip|go_guarded|go_step|go_upon|simp only[];go_at_K
  have hB:=hB.aq hu (by simp only[mem_singleton];omega)
  have fD:=fD.aq hu (by simp only[mem_singleton];omega)
  have UA:ab [] [] w Zj:=UA.mG (X:=[bm]) (Y:=[bm]) (by simpa using wD) hu
  have hM:cz prog 3 Zj bm [(1,iU hb d1),(2,fv 174 hb),(3,fv 176 hb),(4,fv 177 hb)]:=jL
  clear hu jL hrun
  have C:=sZ Zj hb 179
  unfold fv at C
  refine C.mono ?_;rintro e Wc5 ⟨d5,rfl,qZ,xG,hu⟩
  have Jo:bm≠d5:=by have h1:=(hu.fresh d5 (by simp)).resolve_left (by simp);have:=hM.lt;omega
  have hB:=hB.aq hu (by simp)
  have fD:=fD.aq hu (by simp)
  have hM:=hM.aq hu (by simp)
  have UA:=UA.trans (hu.gives (b':=[]) (by simp))
  clear C hu
  repeat' (fail_if_success with_reducible refine ba rfl ?_);first|go_values|go_skip|go_guarded|go_step|go_upon|simp only[];go_at_K
  obtain⟨Zk,hrun,jL,hu⟩:=hM.store underlying3 underlying179 (by simp[maxLen]) (x:=5) (by decide) (iU hb d5)
  rw[hrun]
  repeat' first|go_values|go_skip|go_guarded|go_step|go_upon|simp only[];go_at_K
  have hB:=hB.aq hu (by simp only[mem_singleton];omega)
  have fD:=fD.aq hu (by simp only[mem_singleton];omega)
  have qZ:=qZ.aq hu (by simp only[mem_singleton];omega)
  have UA:ab [] [] w Zk:=UA.mG (X:=[bm]) (Y:=[bm]) (by simpa using wD) hu
  have hM:cz prog 3 Zk bm [(1,iU hb d1),(2,fv 174 hb),(3,fv 176 hb),(4,fv 177 hb),(5,iU hb d5)]:=jL
  clear hu jL hrun
  have C:=sZ Zk hb 180
  unfold fv at C
  refine C.mono ?_;rintro e Wc6 ⟨d6,rfl,wE,E3,hu⟩
  have hn6:bm≠d6:=by have h1:=(hu.fresh d6 (by simp)).resolve_left (by simp);have:=hM.lt;omega
  have hB:=hB.aq hu (by simp)
  have fD:=fD.aq hu (by simp)
  have qZ:=qZ.aq hu (by simp)
  have hM:=hM.aq hu (by simp)
  have UA:=UA.trans (hu.gives (b':=[]) (by simp))
  clear C hu
  repeat' (fail_if_success with_reducible refine ba rfl ?_);first|go_values|go_skip|go_guarded|go_step|go_upon|simp only[];go_at_K
  obtain⟨Zl,hrun,jL,hu⟩:=hM.store underlying3 underlying179 (by simp[maxLen]) (x:=6) (by decide) (iU hb d6)
  rw[hrun]
  repeat' first|go_values|go_skip|go_guarded|go_step|go_upon|simp only[];go_at_K
  have hB:=hB.aq hu (by simp only[mem_singleton];omega)
  have fD:=fD.aq hu (by simp only[mem_singleton];omega)
  have qZ:=qZ.aq hu (by simp only[mem_singleton];omega)
  have wE:=wE.aq hu (by simp only[mem_singleton];omega)
  have UA:ab [] [] w Zl:=UA.mG (X:=[bm]) (Y:=[bm]) (by simpa using wD) hu
  have hM:cz prog 3 Zl bm [(1,iU hb d1),(2,fv 174 hb),(3,fv 176 hb),(4,fv 177 hb),(5,iU hb d5),(6,iU hb d6)]:=jL
  clear hu jL hrun
  have C:=sZ Zl hb 181
  unfold fv at C
  refine C.mono ?_;rintro e Wc7 ⟨d7,rfl,wv,hl7,hu⟩
  have vC:bm≠d7:=by have h1:=(hu.fresh d7 (by simp)).resolve_left (by simp);have:=hM.lt;omega
  have hB:=hB.aq hu (by simp)
  have fD:=fD.aq hu (by simp)
  have qZ:=qZ.aq hu (by simp)
  have wE:=wE.aq hu (by simp)
  have hM:=hM.aq hu (by simp)
  have UA:=UA.trans (hu.gives (b':=[]) (by simp))
  clear C hu
  repeat' (fail_if_success with_reducible refine ba rfl ?_);first|go_values|go_skip|go_guarded|go_step|go_upon|simp only[];go_at_K
  obtain⟨Zm,hrun,jL,hu⟩:=hM.store underlying3 underlying179 (by simp[maxLen]) (x:=7) (by decide) (iU hb d7)
  rw[hrun]
  repeat' first|go_values|go_skip|go_guarded|go_step|go_upon|simp only[];go_at_K
  have hB:=hB.aq hu (by simp only[mem_singleton];omega)
  have fD:=fD.aq hu (by simp only[mem_singleton];omega)
  have qZ:=qZ.aq hu (by simp only[mem_singleton];omega)
  have wE:=wE.aq hu (by simp only[mem_singleton];omega)
  have wv:=wv.aq hu (by simp only[mem_singleton];omega)
  have UA:ab [] [] w Zm:=UA.mG (X:=[bm]) (Y:=[bm]) (by simpa using wD) hu
  have hM:cz prog 3 Zm bm [(1,iU hb d1),(2,fv 174 hb),(3,fv 176 hb),(4,fv 177 hb),(5,iU hb d5),(6,iU hb d6),(7,iU hb d7)]:=jL
  clear hu jL hrun
  have C:=sZ Zm hb 182
  unfold fv at C
  refine C.mono ?_;rintro e Wc8 ⟨d8,rfl,Zn,MY,hu⟩
  have hn8:bm≠d8:=by have h1:=(hu.fresh d8 (by simp)).resolve_left (by simp);have:=hM.lt;omega
  have hB:=hB.aq hu (by simp)
  have fD:=fD.aq hu (by simp)
  have qZ:=qZ.aq hu (by simp)
  have wE:=wE.aq hu (by simp)
  have wv:=wv.aq hu (by simp)
  have hM:=hM.aq hu (by simp)
  have UA:=UA.trans (hu.gives (b':=[]) (by simp))
  clear C hu
  repeat' (fail_if_success with_reducible refine ba rfl ?_);first|go_values|go_skip|go_guarded|go_step|go_upon|simp only[];go_at_K
  obtain⟨Wi8,hrun,jL,hu⟩:=hM.store underlying3 underlying179 (by simp[maxLen]) (x:=8) (by decide) (iU hb d8)
  rw[hrun]
  repeat' first|go_values|go_skip|go_guarded|go_step|go_upon|simp only[];go_at_K
  have hB:=hB.aq hu (by simp only[mem_singleton];omega)
  have fD:=fD.aq hu (by simp only[mem_singleton];omega)
  have qZ:=qZ.aq hu (by simp only[mem_singleton];omega)
  have wE:=wE.aq hu (by simp only[mem_singleton];omega)
  have wv:=wv.aq hu (by simp only[mem_singleton];omega)
  have Zn:=Zn.aq hu (by simp only[mem_singleton];omega)
  have UA:ab [] [] w Wi8:=UA.mG (X:=[bm]) (Y:=[bm]) (by simpa using wD) hu
  have hM:cz prog 3 Wi8 bm [(1,iU hb d1),(2,fv 174 hb),(3,fv 176 hb),(4,fv 177 hb),(5,iU hb d5),(6,iU hb d6),(7,iU hb d7),(8,iU hb d8)]:=jL
  clear hu jL hrun
  go_ret
  exact⟨hb,bm,d1,d5,d6,d7,d8,rfl,hM,hB,fD,qZ,wE,wv,Zn,UA⟩
def lG(k:Nat)(args:Array Value)(w:World)(V:WV)(R:Wd × Int × Int):Prop:=
  Calls prog k args w fun e w'=>e=.returned (.tuple #[.int .i64 R.2.1,.int .i64 R.2.2])∧fA w w' V R.1
theorem WV.Rk(V:WV)(s:Int):(V.pl.place s=none∧V.at_ s=none)∨∃(i:Nat)(M:ae),s=(i:Int)∧V.pl.place s=some i∧V.ss[i]? =some M∧V.pl.ss[i]? =some M.pl:=by
  have hl:V.pl.ss.length=V.ss.length:=by unfold WV.pl;simp
  unfold Wd.place WV.at_
  rw[hl]
  by_cases h:0≤s∧s<(V.ss.length:Int)
  · right
    obtain⟨i,rfl⟩:∃i:Nat,s=(i:Int):=⟨s.toNat,by omega⟩
    have hi:i<V.ss.length:=by omega
    have hM:V.ss[i]? =some V.ss[i]:=List.getElem?_eq_getElem hi
    exact⟨i,V.ss[i],rfl,by rw[if_pos h];rfl,hM,by rw[V.oR,hM];rfl⟩
  · left
    rw[if_neg h]
    refine⟨rfl,?_⟩
    split
    · exact List.getElem?_eq_none (by omega)
    · rfl
theorem aae(w:World)(V:WV)(h:WS w V)(hb d1 d5 d6 d7 d8:Nat)(hB:kT w hb V)(h1:aQ w d1 178 #[fv 173 hb])(h5:aQ w d5 178 #[fv 179 hb])(h6:aQ w d6 178 #[fv 180 hb])(h7:aQ w d7 178 #[fv 181 hb])(h8:aQ w d8 178 #[fv 182 hb])(x:Ev)(hr:bE w x.A x.l x.b)(hl:x.b.length≤140737488355328)(hL:∀(i:Nat) s,V.pl.ss[i]? =some s→Lv s 300)(F:Value)(hF:(dX x.k (GA hb d1 d5 d6 d7 d8)).getD .nilFunc=F) :
    (∃d,F=iU hb d∧lG 172 #[x.val,.pointer (some ⟨hb,0,none⟩),.pointer (some ⟨d,0,none⟩)] w V (V.pl.fC x.k x.s x.at_ x.n x.b))∨
    (F=fv 174 hb∧lG 174 #[x.val,.pointer (some ⟨hb,0,none⟩)] w V (V.pl.fC x.k x.s x.at_ x.n x.b))∨
    (F=fv 176 hb∧lG 176 #[x.val,.pointer (some ⟨hb,0,none⟩)] w V (V.pl.fC x.k x.s x.at_ x.n x.b))∨
    (F=fv 177 hb∧lG 177 #[x.val,.pointer (some ⟨hb,0,none⟩)] w V (V.pl.fC x.k x.s x.at_ x.n x.b))∨
    (F=.nilFunc∧V.pl.fC x.k x.s x.at_ x.n x.b=(V.pl,0,1)):=by
  have Zo:∀(i:Nat) s,V.pl.ss[i]? =some s→Lv s 0:=fun i s hs=>by
    obtain⟨S,⟨R,z,h1,h2⟩|h1⟩:=hL i s hs
    · exact⟨S,.inl ⟨R,z,h1,by omega⟩⟩
    · exact⟨S,.inr h1⟩
  have NO:∀d (f:Nat→Wd × Int × Int),V.at_ x.s=none→V.pl.place x.s=none→lG 172 #[x.val,.pointer (some ⟨hb,0,none⟩),.pointer (some ⟨d,0,none⟩)] w V (V.pl.fc x.s f):=fun d f hn hp=>by
    unfold lG Wd.fc
    rw[hp]
    refine(OS w V h hb hB x d hn).mono ?_
    rintro e w' ⟨rfl,hu⟩
    exact⟨rfl,V,h.aN hu,rfl,rfl,hu.up _⟩
  have YES:∀d k (f:Nat→Wd × Int × Int) (i:Nat) (M:ae),pB k→aQ w d 178 #[fv k hb]→x.s=(i:Int)→V.pl.place x.s=some i→V.ss[i]? =some M→
      (∀w1,WS w1 V→kT w1 hb V→bE w1 x.A x.l x.b→lG k #[x.val,.pointer (some ⟨hb,0,none⟩)] w1 V (f i))→lG 172 #[x.val,.pointer (some ⟨hb,0,none⟩),.pointer (some ⟨d,0,none⟩)] w V (V.pl.fc x.s f):=fun d k f i M hk hd hs hp hM hc=>by
    unfold Wd.fc
    rw[hp]
    exact Lw w V h hb hB x d k hk hd i hs M hM _ _ _ fun w1 hu=>hc w1 (h.aN hu) (aQ.aq hB hu (by simp)) (hr.aq hu (by simp))
  have GB:∀d k (f:Nat→Wd × Int × Int),pB k→aQ w d 178 #[fv k hb]→(∀(i:Nat)(M:ae),x.s=(i:Int)→V.ss[i]? =some M→V.pl.ss[i]? =some M.pl→∀w1,WS w1 V→kT w1 hb V→bE w1 x.A x.l x.b→lG k #[x.val,.pointer (some ⟨hb,0,none⟩)] w1 V (f i))→
      lG 172 #[x.val,.pointer (some ⟨hb,0,none⟩),.pointer (some ⟨d,0,none⟩)] w V (V.pl.fc x.s f):=fun d k f hk hd hc=>by
    rcases V.Rk x.s with⟨hp,hn⟩|⟨i,M,hs,hp,hM,lX⟩
    · exact NO d f hn hp
    · exact YES d k f i M hk hd hs hp hM (hc i M hs hM lX)
  have Zp:∀a:Int,V.pl.has a=dh V.aI.length a:=fun _=>rfl
  unfold Wd.fC
  by_cases k1:x.k=1
  · left
    rw[k1]at hF
    rw[if_pos k1]
    refine⟨d1,hF.symm,GB d1 _ _ (by unfold pB;omega) h1 fun i M hs hM lX w1 g1 g2 g3=>?_⟩
    have e1:V.pl.oC x.b i=({V.pl with ss:=V.pl.ss.set i (M.pl.cm x.b).1},(M.pl.cm x.b).2.1,(M.pl.cm x.b).2.2):=by unfold Wd.oC;rw[lX]
    rw[e1]
    exact GC w1 V g1 hb g2 x i hs M hM (Zo i _ lX) g3 hl
  rw[if_neg k1]
  by_cases k2:x.k=2
  · right;left
    rw[k2]at hF
    rw[if_pos k2]
    refine⟨hF.symm,?_⟩
    rw[Zp]
    exact Dc w V h hb hB x Zo
  rw[if_neg k2]
  by_cases k3:x.k=3
  · right;right;left
    rw[k3]at hF
    rw[if_pos k3]
    refine⟨hF.symm,?_⟩
    rw[Zp]
    exact Lx w V h hb hB x
  rw[if_neg k3]
  by_cases k4:x.k=4
  · right;right;right;left
    rw[k4]at hF
    rw[if_pos k4]
    refine⟨hF.symm,?_⟩
    rw[Zp]
    exact GD w V h hb hB x
  rw[if_neg k4]
  by_cases k5:x.k=5
  · left
    rw[k5]at hF
    rw[if_pos k5]
    refine⟨d5,hF.symm,GB d5 _ _ (by unfold pB;omega) h5 fun i M hs hM lX w1 g1 g2 g3=>?_⟩
    have e1:V.pl.eJ i Site.tick= {V.pl with ss:=V.pl.ss.set i M.pl.tick}:=by unfold Wd.eJ;rw[lX]
    rw[e1]
    exact Ly w1 V g1 hb g2 x i hs M hM (hL i _ lX)
  rw[if_neg k5]
  by_cases k6:x.k=6
  · left
    rw[k6]at hF
    rw[if_pos k6]
    refine⟨d6,hF.symm,GB d6 _ _ (by unfold pB;omega) h6 fun i M hs hM lX w1 g1 g2 g3=>?_⟩
    exact Lz w1 V g1 hb g2 x i hs (Zo i)
  rw[if_neg k6]
  by_cases k7:x.k=7
  · left
    rw[k7]at hF
    rw[if_pos k7]
    refine⟨d7,hF.symm,GB d7 _ _ (by unfold pB;omega) h7 fun i M hs hM lX w1 g1 g2 g3=>?_⟩
    have e1:(V.pl.eJ i fun t=>t.dB x.n)= {V.pl with ss:=V.pl.ss.set i (M.pl.dB x.n)}:=by unfold Wd.eJ;rw[lX]
    rw[e1]
    exact Hn w1 V g1 hb g2 x i hs M hM
  rw[if_neg k7]
  by_cases k8:x.k=8
  · left
    rw[k8]at hF
    rw[if_pos k8]
    refine⟨d8,hF.symm,GB d8 _ _ (by unfold pB;omega) h8 fun i M hs hM lX w1 g1 g2 g3=>?_⟩
    exact Dd w1 V g1 hb g2 x i hs M hM
  rw[if_neg k8]
  right;right;right;right
  refine⟨?_,rfl⟩
  rw[←hF]
  have:dX x.k (GA hb d1 d5 d6 d7 d8)=none:=by
    unfold GA
    simp[dX,k1,k2,k3,k4,k5,k6,k7,Ne.symm k1,Ne.symm k2,Ne.symm k3,Ne.symm k4,Ne.symm k5,Ne.symm k6,Ne.symm k7,Ne.symm k8]
  rw[this];rfl
theorem wU(w:World)(V:WV)(h:WS w V)(x:Ev)(eO:(Lit.int .i64 x.k).wf=true)(hr:bE w x.A x.l x.b)(hl:x.b.length≤140737488355328)(hL:∀(i:Nat) s,V.pl.ss[i]? =some s→Lv s 300) :
    lG 44 #[V.ptr,x.val] w V (V.pl.fC x.k x.s x.at_ x.n x.b):=by
  obtain⟨W,H,eW,hH,fh,U0⟩:=cb w 85 #[.int .i64 x.k,.int .i64 x.s,.int .i64 x.at_,.int .i64 x.n,.slice x.A x.l x.c]
  have cv:=U0.gives (b':=[]) (by simp)
  have C:=Rj W.drew V.gw
  have a:W.drew.cell? ⟨H,0,none⟩=some (.int .i64 x.k):=fh.cell 0
  have hzf:∀w,(zeroValue 178).run prog w=.ok .nilFunc w:=zeroValue178
  have HA:=aA (fun(w1:World)(hu:ab [] [] W.drew w1) hb d1 d5 d6 d7 d8 a b c d e f fP F hF=>aae w1 V ((h.aN cv.drew).aN hu) hb d1 d5 d6 d7 d8 a b c d e f x fP hl hL F hF)
  have HR:=aA (fun(w1:World)(hu:ab [] [] W.drew w1)=>(hr.aq (cv.drew) (by simp)).aq hu (by simp))
  have HX:=aA (fun(w1:World)(hu:ab [] [] W.drew w1)=>show w1.cell? ⟨H,0,none⟩=_ from hu.cell a (by simp))
  have HV:=aA (fun(w1:World)(hu:ab [] [] W.drew w1)=>(fh.drew.aq hu (by simp)))
  have HWF:=aA eO
  have Sr:∀(k:Nat)(a b:Array Value) w,(binOp .eql 178 (.func (.func k) a b) .nilFunc).run prog w=.ok (.bool false) w:=fun k a b w=>rfl
  have eqF:∀w,(binOp .eql 178 .nilFunc .nilFunc).run prog w=.ok (.bool true) w:=fun w=>rfl
  have HK:=aA (fun(w1 w2:World)(p:Wd)(hu:ab [] [] W.drew w1)(hg:fA w1 w2 V p)=>show fA w w2 V p from(hg.pre hu).pre cv.drew)
  have HN:=aA (fun(w1:World)(hu:ab [] [] W.drew w1)=>show fA w w1 V V.pl from⟨V,(h.aN cv.drew).aN hu,rfl,rfl,((cv.drew).trans hu).up _⟩)
  obtain⟨R,hR⟩:=bk (V.pl.fC x.k x.s x.at_ x.n x.b)
  rw[hR]at HA ⊢
  unfold lG
  rw[Ev.bJ,WV.ptr]
  have HXV:=aA (Ev.bJ x)
  clear h hr hL hR fh eO
  go_enter func44,ntmps44
  repeat' first|go_values|go_skip|go_guarded|go_step|go_upon|simp only[];go_at_K
  go_region_held3 (fun w'=>w'.cell? ⟨H,0,none⟩=some (.int .i64 x.k)) (first|exact a|exact a2)
    (first
      |(go_at_call 105;(with_reducible refine C.mono ?_);rintro e w2 ⟨hb,bm,d1,d5,d6,d7,d8,rfl,hM,hB,h1,h5,h6,h7,h8,hu⟩;have a2:=HX.out w2 hu;obtain⟨F,hF⟩:∃F,(dX x.k (GA hb d1 d5 d6 d7 d8)).getD .nilFunc=F:=⟨_,rfl⟩;have hlk:=hM.look underlying3 underlying179 (hzf w2) (x:=x.k) HWF.out;rw[hF]at hlk))
  all_goals have A:=HA.out w2 hu hb d1 d5 d6 d7 d8 hB h1 h5 h6 h7 h8 (HR.out w2 hu) F hF
  all_goals obtain⟨⟨b0,b1,b2,b3,b4⟩,-⟩:=(HV.out w2 hu).c5
  all_goals clear hM hB h1 h5 h6 h7 h8 hlk hF C a hzf
  all_goals unfold lG at A
  all_goals rw[HXV.out]at A
  all_goals rcases A with⟨d,rfl,A⟩|⟨rfl,A⟩|⟨rfl,A⟩|⟨rfl,A⟩|⟨rfl,A⟩
  all_goals try unfold iU
  all_goals try unfold fv
  all_goals (repeat' (first|go_values|go_skip|go_guarded|go_step|go_upon|simp only[];go_at_K))
  all_goals first
    |(
       ((with_reducible refine A.mono ?_);rintro e w3 ⟨rfl,hg⟩)
       repeat' first|go_values|go_skip|go_guarded|go_step|go_upon|simp only[];go_at_K
       go_ret2
       exact⟨rfl,HK.out w2 w3 _ hu hg⟩)
    |(
       go_ret2
       rw[A]
       exact⟨rfl,HN.out w2 hu⟩)
