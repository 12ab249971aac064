/- For WorldCalm. -/
import Derived.Test.YtijhlbeipglieaaGreatPkNet
set_option linter.all false
set_option maxRecDepth 100000
set_option maxHeartbeats 2000000
namespace Go.Proofs.YtijhlbeipglieaaGreat
open Go.RowKit aL Tryz List
theorem Rr.off{w:World}{g:Nat}{A:Option Addr}{k c:Nat}{b:List UInt8}{a h:Nat}{t:TypeId}{cs:Array Value}(hr:Rr w g A k c b a)(hB:aQ w h t cs)(ht:t≠5)(hg:g≠h):∀j∈g::ak A,j∉[h]:=by
 intro j hj
 simp only[mem_singleton]
 rintro rfl
 rcases mem_cons.1 hj with h|h
 ·exact hg h.symm
 ·exact hr.own.own.ne hB (Ne.symm ht) h
theorem Tt(p:Addr)(y:Int)(w:World)(hp:w.cell? p=some (.int .i64 y))(hf:w.frozen? p=false)(g H:Nat)(A:Option Addr)(k c:Nat)(b:List UInt8)(a:Nat)(hr:Rr w g A k c b a)(hH:aQ w H 320 #[.pointer (some ⟨g,0,none⟩)])(Hp:p.block≠g)(hb:b.length≤140737488355328)(n sz bad:Nat)(hu:fw 1099511627776 (b.drop a)=(n,sz,bad)) :
  Calls prog 235 #[.pointer (some p),.pointer (some ⟨H,0,none⟩)] w fun e w'=>e=.returned (.bool (decide (bad=0)))∧∃w2,Rr w2 g A k c b (a+sz)∧ab [g] [g] w w2∧w'=w2.setCell p (.int .i64 (n:Int)):=by
 have C:=wX w g A k c b a 1099511627776 (by unfold wY;omega) hr hb
 rw[hu]at C
 have q:=hH.cell 0
 simp only[List.getElem?_toArray,List.getElem?_cons_zero]at q
 have hlt:=World.block_lt_of_cell? w p hp
 clear hu
 by_cases hz:bad=0
 ·subst hz
  simp only[j9]at C
  go_enter func235,ntmps235
  repeat' go_step
  refine C.mono ?_;rintro e w2 ⟨rfl,hr2,bh⟩
  have gS:=bh.cell hp (by simpa using Hp)
  have hf2:=(bh.frozen hlt (by simpa using Hp)).trans hf
  clear C q hp hf
  refine wk ?_
  go_ret
  exact⟨rfl,w2,hr2,bh,rfl⟩
 ·simp only[kF hz]at C
  go_enter func235,ntmps235
  repeat' go_step
  refine C.mono ?_;rintro e w2 ⟨rfl,hr2,bh⟩
  have gS:=bh.cell hp (by simpa using Hp)
  have hf2:=(bh.frozen hlt (by simpa using Hp)).trans hf
  clear C q hp hf
  refine wk ?_
  go_ret
  exact⟨by simp[hz],w2,hr2,bh,rfl⟩
def mC(l:List Nat):List Value:=rS (l.take 8)++replicate (8-l.length) (.int .i64 0)++[.bool false,.slice none 0 0]
theorem Uy{l:List Nat}(h:l.length<8)(x:Nat):(mC l).toArray.setIfInBounds l.length (.int .i64 (x:Int))=(mC (l++[x])).toArray:=by
 match l,h with
 |[],_=>rfl
 |[_],_=>rfl
 |[_,_],_=>rfl
 |[_,_,_],_=>rfl
 |[_,_,_,_],_=>rfl
 |[_,_,_,_,_],_=>rfl
 |[_,_,_,_,_,_],_=>rfl
 |[_,_,_,_,_,_,_],_=>rfl
theorem OX{l:List Nat}(h:l.length=8)(x:Nat):mC (l++[x])=mC l:=by
 match l,h with
 |[_,_,_,_,_,_,_,_],_=>rfl
theorem Uz{l:List Nat}(h:l.length≤8){i:Nat}(hi:i<8):∃y:Int,(mC l)[i]? =some (.int .i64 y):=by
 have:i=0∨i=1∨i=2∨i=3∨i=4∨i=5∨i=6∨i=7:=by omega
 match l,h with
 |[],_=>rcases this with rfl|rfl|rfl|rfl|rfl|rfl|rfl|rfl<;>exact⟨_,rfl⟩
 |[_],_=>rcases this with rfl|rfl|rfl|rfl|rfl|rfl|rfl|rfl<;>exact⟨_,rfl⟩
 |[_,_],_=>rcases this with rfl|rfl|rfl|rfl|rfl|rfl|rfl|rfl<;>exact⟨_,rfl⟩
 |[_,_,_],_=>rcases this with rfl|rfl|rfl|rfl|rfl|rfl|rfl|rfl<;>exact⟨_,rfl⟩
 |[_,_,_,_],_=>rcases this with rfl|rfl|rfl|rfl|rfl|rfl|rfl|rfl<;>exact⟨_,rfl⟩
 |[_,_,_,_,_],_=>rcases this with rfl|rfl|rfl|rfl|rfl|rfl|rfl|rfl<;>exact⟨_,rfl⟩
 |[_,_,_,_,_,_],_=>rcases this with rfl|rfl|rfl|rfl|rfl|rfl|rfl|rfl<;>exact⟨_,rfl⟩
 |[_,_,_,_,_,_,_],_=>rcases this with rfl|rfl|rfl|rfl|rfl|rfl|rfl|rfl<;>exact⟨_,rfl⟩
 |[_,_,_,_,_,_,_,_],_=>rcases this with rfl|rfl|rfl|rfl|rfl|rfl|rfl|rfl<;>exact⟨_,rfl⟩
theorem Hq{i:Nat}(h:i<9):sh[i]? =some 1099511627776:=by unfold sh;rw[List.getElem?_replicate,if_pos h]
theorem OY(M S:Nat){i:Nat}(h:i<8):(cW M S)[i]'(by rw[Be];omega)=⟨M,i,none⟩:=by
 have:i=0∨i=1∨i=2∨i=3∨i=4∨i=5∨i=6∨i=7:=by omega
 rcases this with rfl|rfl|rfl|rfl|rfl|rfl|rfl|rfl<;>rfl
theorem GI(w:World)(M S H g:Nat)(A:Option Addr)(k c:Nat)(b:List UInt8)(hr:Rr w g A k c b 0)(hH:aQ w H 320 #[.pointer (some ⟨g,0,none⟩)])(hM:aQ w M 32 (mC []).toArray)(hS:aQ w S 3 #[.int .i64 0])(hb:b.length≤140737488355328) :
  Calls prog 122 #[.pointer (some ⟨M,0,none⟩),.pointer (some ⟨S,0,none⟩),.func (.func 235) #[] #[.pointer (some ⟨H,0,none⟩)]] w
   fun e w'=>(jK b sh 0=none∧e=.returned (.bool false)∨∃(l:List Nat)(a:Nat),jK b sh 0=some (l,a)∧l.length=9∧e=.returned (.bool true)∧Rr w' g A k c b a∧aQ w' M 32 (mC l).toArray∧aQ w' S 3 #[.int .i64 ((l.getD 8 0:Nat):Int)]∧aQ w' H 320 #[.pointer (some ⟨g,0,none⟩)])
    ∧ab [g,M,S] [g,M,S] w w':=by
 have bf:M≠S:=hM.yO hS (by decide)
 have UC:g≠M:=hr.aO.yO hM (by decide)
 have UH:g≠S:=hr.aO.yO hS (by decide)
 have hHM:H≠M:=hH.yO hM (by decide)
 have hHS:H≠S:=hH.yO hS (by decide)
 have Ru:g≠H:=hr.aO.yO hH (by decide)
 go_enter func122,ntmps122
 repeat' go_step
 go_still_tail 29,(by kernel_rfl)
 change wpList _ _ _ _ _ w.drew
 repeat' go_step
 have hP:aQ (w.alloc (.cells (ka (cW M S)).toArray 207)).drew w.heap.size 207 (ka (cW M S)).toArray:=aQ.new _ _ _
 have hr1:Rr (w.alloc (.cells (ka (cW M S)).toArray 207)).drew g A k c b 0:=⟨hr.aO.alloc _,(hr.own.alloc _).drew,hr.le⟩
 have Rw:aQ (w.alloc (.cells (ka (cW M S)).toArray 207)).drew H 320 #[.pointer (some ⟨g,0,none⟩)]:=hH.alloc _
 have jW:aQ (w.alloc (.cells (ka (cW M S)).toArray 207)).drew M 32 (mC []).toArray:=hM.alloc _
 have hS1:aQ (w.alloc (.cells (ka (cW M S)).toArray 207)).drew S 3 #[.int .i64 0]:=hS.alloc _
 have hPg:w.heap.size≠g:=by have:=hr.aO.lt;omega
 have hPM:w.heap.size≠M:=by have:=hM.lt;omega
 have hPS:w.heap.size≠S:=by have:=hS.lt;omega
 have U1:ab [g,M,S] [g,M,S] w (w.alloc (.cells (ka (cW M S)).toArray 207)).drew:=((ab.refl _ _).alloc _).drew
 clear hr hH hM hS
 go_loopw [42] (fun DB wr=>∃(l:List Nat)(a:Nat),l.length≤9∧DB=.int .i64 (l.length:Int)∧lI b sh l a∧Rr wr g A k c b a∧aQ wr M 32 (mC l).toArray∧aQ wr S 3 #[.int .i64 ((l.getD 8 0:Nat):Int)]∧aQ wr H 320 #[.pointer (some ⟨g,0,none⟩)]∧aQ wr w.heap.size 207 (ka (cW M S)).toArray∧ab [g,M,S] [g,M,S] w wr)
  (fun DB _=>9-(intOf DB).toNat)
 case atStart=>exact⟨[],0,by simp,rfl,lI.zero _ _,hr1,jW,hS1,Rw,hP,U1⟩
 case round=>
  obtain⟨l,a,hl9,rfl,hst,hr,hM,hS,hH,Bf,hu⟩:=hrel
  clear hP hr1 jW hS1 Rw U1
  by_cases hlt:l.length<9
  ·have jw:l.length<(cW M S).length:=by rw[Be];exact hlt
   obtain⟨n,sz,bad,DC⟩:∃n sz bad,fw 1099511627776 (b.drop a)=(n,sz,bad):=⟨_,_,_,rfl⟩
   have UI:wr.cell? ⟨w.heap.size,l.length,none⟩=some (.pointer (some ((cW M S)[l.length]'jw))):=by
    rw[Bf.cell];simpa using Bg (cW M S) l.length jw
   -- where it is stored
   have ada:∃y:Int,wr.cell? ((cW M S)[l.length]'jw)=some (.int .i64 y)∧wr.frozen? ((cW M S)[l.length]'jw)=false∧((cW M S)[l.length]'jw).block∈[M,S]∧
     ∀W:World,aQ W M 32 (mC l).toArray→aQ W S 3 #[.int .i64 ((l.getD 8 0:Nat):Int)]→
      aQ (W.setCell ((cW M S)[l.length]'jw) (.int .i64 (n:Int))) M 32 (mC (l++[n])).toArray∧aQ (W.setCell ((cW M S)[l.length]'jw) (.int .i64 (n:Int))) S 3 #[.int .i64 (((l++[n]).getD 8 0:Nat):Int)]:=by
    by_cases h8:l.length<8
    ·rw[OY M S h8]
     obtain⟨y,hy⟩:=Uz (l:=l) (by omega) h8
     refine⟨y,by rw[hM.cell];simpa using hy,hM.frozen _,by simp,fun W jL UJ=>⟨?_,?_⟩⟩
     ·rw[←Uy h8];exact jL.cc _ _
     ·have e:(l++[n]).getD 8 0=l.getD 8 0:=by
       rw[List.getD_eq_getElem?_getD,List.getD_eq_getElem?_getD,List.getElem?_eq_none (l:=l++[n]) (by simp;omega),List.getElem?_eq_none (l:=l) (by omega)]
      rw[e];exact UJ.fB (Ne.symm bf) _
    ·have e8:l.length=8:=by omega
     have en:(cW M S)[l.length]'jw=⟨S,0,none⟩:=by simp only[e8];rfl
     rw[en]
     refine⟨_,hS.cell 0,hS.frozen _,by simp,fun W jL UJ=>⟨?_,?_⟩⟩
     ·rw[OX e8];exact jL.fB bf _
     ·have e:(l++[n]).getD 8 0=n:=by
       rw[List.getD_eq_getElem?_getD,List.getElem?_append_right (by omega),e8];rfl
      rw[e];exact UJ.cc 0 _
   obtain⟨y,UM,UN,Bh,ql⟩:=ada
   have OZ:=aA ql;clear ql
   have HR:Hid (∀(W:World),Rr W g A k c b (a+sz)→aQ W M 32 (mC l).toArray→aQ W S 3 #[.int .i64 ((l.getD 8 0:Nat):Int)]→Rr (W.setCell ((cW M S)[l.length]'jw) (.int .i64 (n:Int))) g A k c b (a+sz)):=by
    intro W h1 h2 h3
    have hq:((cW M S)[l.length]'jw).block=M∨((cW M S)[l.length]'jw).block=S:=by simpa using Bh
    rcases hq with hq|hq
    ·exact h1.aq ((ab.refl [M] W).setCell (.inl (by simp[hq])) _) (h1.off h2 (by decide) UC)
    ·exact h1.aq ((ab.refl [S] W).setCell (.inl (by simp[hq])) _) (h1.off h3 (by decide) UH)
   have HF:Hid (∀(W:World)(h:Nat)(t:TypeId)(cs:Array Value),h≠M→h≠S→aQ W h t cs→aQ (W.setCell ((cW M S)[l.length]'jw) (.int .i64 (n:Int))) h t cs):=by
    intro W h t cs h1 h2 hB
    have hq:((cW M S)[l.length]'jw).block=M∨((cW M S)[l.length]'jw).block=S:=by simpa using Bh
    exact hB.fB (by rcases hq with hq|hq<;>rw[hq]<;>assumption) _
   have Hp:((cW M S)[l.length]'jw).block≠g:=by
    have hq:((cW M S)[l.length]'jw).block=M∨((cW M S)[l.length]'jw).block=S:=by simpa using Bh
    rcases hq with hq|hq<;>rw[hq]
    ·exact Ne.symm UC
    ·exact Ne.symm UH
   have HU:Hid (∀(W:World),ab [g,M,S] [g,M,S] w W→ab [g,M,S] [g,M,S] w (W.setCell ((cW M S)[l.length]'jw) (.int .i64 (n:Int)))):=by
    intro W h
    have hq:((cW M S)[l.length]'jw).block=M∨((cW M S)[l.length]'jw).block=S:=by simpa using Bh
    exact h.setCell (.inl (by rcases hq with hq|hq<;>simp[hq])) _
   clear Bh
   generalize (cW M S)[l.length]'jw=p at *
   have D:=Tt p y wr UM UN g H A k c b a hr hH Hp hb n sz bad DC
   by_cases hz:bad=0
   ·subst hz
    have HN:=aA (hst.more (Hq hlt) DC)
    rw[dJ rfl]at D
    clear hst DC UM UN
    repeat' go_step
    refine D.mono ?_;rintro e w3 ⟨rfl,w2,hr2,bh,rfl⟩
    have gg:=hM.aq bh (by simp;exact Ne.symm UC)
    have gz:=hS.aq bh (by simp;exact Ne.symm UH)
    have DD:=hH.aq bh (by simp;exact Ne.symm Ru)
    have Rx:=Bf.aq bh (by simpa using hPg)
    have cQ:=HU.out _ (hu.trans (bh.mono (a':=[g,M,S]) (b':=[g,M,S]) (by simp) (fun j hj=>.inr (.inl hj))))
    have UO:=OZ.out _ gg gz
    have hr3:=HR.out _ hr2 gg gz
    have Ry:=HF.out _ _ _ _ hHM hHS DD
    have hP4:=HF.out _ _ _ _ hPM hPS Rx
    clear D HU OZ HR HF gg gz DD Rx hr2 hM hS hH Bf hr
    generalize w2.setCell p (.int .i64 (n:Int))=W3 at *
    refine wk ?_
    exact⟨⟨l++[n],a+sz,by simp;omega,by simp,HN.out,hr3,UO.1,UO.2,Ry,hP4,cQ⟩,by simp[intOf];omega⟩
   ·have HN:=aA (hst.bad (Hq hlt) DC hz)
    rw[eE hz]at D
    clear hst DC UM UN
    repeat' go_step
    refine D.mono ?_;rintro e w3 ⟨rfl,w2,hr2,bh,rfl⟩
    have cQ:=HU.out _ (hu.trans (bh.mono (a':=[g,M,S]) (b':=[g,M,S]) (by simp) (fun j hj=>.inr (.inl hj))))
    clear D HU OZ HR HF hM hS hH Bf hr hr2
    generalize w2.setCell p (.int .i64 (n:Int))=W3 at *
    refine wk ?_
    go_ret
    exact⟨.inl ⟨HN.out,rfl⟩,cQ⟩
  ·have hl:l.length=9:=by omega
   have HN:=aA (hst.all (by rw[hl];rfl))
   clear hst hlt
   refine wk ?_
   go_ret
   exact⟨.inr ⟨l,a,HN.out,hl,rfl,hr,hM,hS,hH⟩,hu⟩
