/- Merged: WrldH, WrldI, WrldO. -/
import Derived.Test.YtijhlbeipglieaaGreatPkWrldT
set_option linter.all false
set_option maxRecDepth 100000
set_option maxHeartbeats 8000000
namespace Go.Proofs.YtijhlbeipglieaaGreat
open Go.RowKit Agio Go.Maps
def fnW (k hb:Nat):Value:=.func (.func k) #[] #[.pointer (some ⟨hb,0,none⟩)]
def fnS (hb d:Nat):Value:=.func (.func 172) #[] #[.pointer (some ⟨hb,0,none⟩),.pointer (some ⟨d,0,none⟩)]
theorem worldOf (w:World) (hb k:Nat) :
    Calls Tryz.prog 171 #[fnW k hb,.pointer (some ⟨hb,0,none⟩)] w fun e w'=>∃d,e= .returned (fnS hb d)∧Blk w' d 178 #[fnW k hb]∧d < w'.heap.size∧Upd [] [d] w w':=by
  unfold fnW fnS
  go_enter Tryz.func171,Tryz.ntmps171
  repeat' (first|go_values|go_skip|go_guarded|go_step|go_upon|(simp only [];go_at_K))
  go_ret
  exact ⟨w.heap.size,rfl,Blk.new _ _ _,by simp,((Upd.refl [] w).alloc _).gives (by simp)⟩
def siteFn (k:Nat):Prop:=k=173∨k=179∨k=180∨k=181∨k=182
theorem worldOfNo (w:World) (V:WV) (h:WS w V) (hb:Nat) (hB:Wbox w hb V) (x:Ev) (d:Nat) (hn:V.at_ x.s=none) :
    Calls Tryz.prog 172 #[x.val,.pointer (some ⟨hb,0,none⟩),.pointer (some ⟨d,0,none⟩)] w fun e w'=>e= .returned (.tuple #[.int .i64 0,.int .i64 1])∧Upd [] [] w w':=by
  obtain ⟨W,H,eW,hH,hBx,U0⟩:=boxes1 w 85 #[.int .i64 x.k,.int .i64 x.s,.int .i64 x.at_,.int .i64 x.n,.slice x.A x.l x.c]
  have U0':=U0.gives (b':=[]) (by simp)
  have C:=worldAt W V (h.upd0 U0') x.s
  rw [hn,WV.ptr] at C
  have a:W.cell? ⟨hb,0,none⟩=some (.pointer (some ⟨V.gw,0,none⟩)):=(Blk.upd hB U0' (by simp)).cell 0
  have c:W.cell? ⟨H,1,none⟩=some (.int .i64 x.s):=hBx.cell 1
  simp only [ptrO] at C
  rw [Ev.val_eq]
  clear h hB hBx hn
  go_enter Tryz.func172,Tryz.ntmps172
  repeat' (first|go_values|go_skip|go_guarded|go_step|go_upon|(simp only [];go_at_K))
  ((with_reducible refine C.mono ?_);rintro e w1 ⟨rfl,rfl⟩)
  repeat' (first|go_values|go_skip|go_guarded|go_step|go_upon|(simp only [];go_at_K))
  go_ret2
  exact ⟨rfl,U0'⟩
theorem worldOfYes (w:World) (V:WV) (h:WS w V) (hb:Nat) (hB:Wbox w hb V) (x:Ev) (d k:Nat) (hk:siteFn k) (hD:Blk w d 178 #[fnW k hb]) (i:Nat) (hs:x.s=(i:Int)) (M:SiteV) (hM:V.ss[i]? =some M) (r f:Int) (p:Wd)
    (C1:∀w1,Upd [] [] w w1→Calls Tryz.prog k #[x.val,.pointer (some ⟨hb,0,none⟩)] w1 fun e w'=>e= .returned (.tuple #[.int .i64 r,.int .i64 f])∧Wone w1 w' V p) :
    Calls Tryz.prog 172 #[x.val,.pointer (some ⟨hb,0,none⟩),.pointer (some ⟨d,0,none⟩)] w fun e w'=>e= .returned (.tuple #[.int .i64 r,.int .i64 f])∧Wone w w' V p:=by
  obtain ⟨W,H,eW,hH,hBx,U0⟩:=boxes1 w 85 #[.int .i64 x.k,.int .i64 x.s,.int .i64 x.at_,.int .i64 x.n,.slice x.A x.l x.c]
  have U0':=U0.gives (b':=[]) (by simp)
  have C:=worldAt W V (h.upd0 U0') x.s
  have hn:V.at_ x.s=some M:=by rw [hs,WV.at_nat];exact hM
  rw [hn,WV.ptr] at C
  have a:W.cell? ⟨hb,0,none⟩=some (.pointer (some ⟨V.gw,0,none⟩)):=(Blk.upd hB U0' (by simp)).cell 0
  obtain ⟨⟨c0,c,c2,c3,c4⟩,-⟩:=hBx.c5
  have g:W.cell? ⟨d,0,none⟩=some (fnW k hb):=(hD.upd U0' (by simp)).cell 0
  have C1:=C1 W U0'
  simp only [ptrO,SiteV.ptr] at C
  rw [Ev.val_eq] at C1 ⊢
  unfold fnW at g
  clear h hB hBx hn hD hM hs
  rcases hk with rfl | rfl | rfl | rfl | rfl
  all_goals
    go_enter Tryz.func172,Tryz.ntmps172
    repeat' (first|go_values|go_skip|go_guarded|go_step|go_upon|(simp only [];go_at_K))
    ((with_reducible refine C.mono ?_);rintro e w1 ⟨rfl,rfl⟩)
    repeat' (first|go_values|go_skip|go_guarded|go_step|go_upon|(simp only [];go_at_K))
    ((with_reducible refine C1.mono ?_);rintro e w1 ⟨rfl,hg⟩)
    repeat' (first|go_values|go_skip|go_guarded|go_step|go_upon|(simp only [];go_at_K))
    go_ret2
    exact ⟨rfl,hg.pre U0'⟩
end Go.Proofs.YtijhlbeipglieaaGreat
namespace Go.Proofs.YtijhlbeipglieaaGreat
open Go.RowKit Agio Go.Maps
def hapL (hb d1 d5 d6 d7 d8:Nat):List (Int × Value):=[(1,fnS hb d1),(2,fnW 174 hb),(3,fnW 176 hb),(4,fnW 177 hb),(5,fnS hb d5),(6,fnS hb d6),(7,fnS hb d7),(8,fnS hb d8)]
theorem worldHap (w:World) (gw:Nat) :
    Calls Tryz.prog 105 #[.pointer (some ⟨gw,0,none⟩)] w fun e w'=>∃hb bm d1 d5 d6 d7 d8,e= .returned (.map (some bm))∧MapI Tryz.prog 3 w' bm (hapL hb d1 d5 d6 d7 d8)∧Blk w' hb 77 #[.pointer (some ⟨gw,0,none⟩)]∧
      Blk w' d1 178 #[fnW 173 hb]∧Blk w' d5 178 #[fnW 179 hb]∧Blk w' d6 178 #[fnW 180 hb]∧
      Blk w' d7 178 #[fnW 181 hb]∧Blk w' d8 178 #[fnW 182 hb]∧Upd [] [] w w':=by
  have hmm:=@run_makeMap Tryz.prog
  have hB0:=Blk.new w 77 #[.pointer (some ⟨gw,0,none⟩)]
  obtain ⟨W0,hW0⟩:∃X,w.alloc (.cells #[.pointer (some ⟨gw,0,none⟩)] 77)=X:=⟨_,rfl⟩
  have U0:Upd [] [] w W0:=by rw [←hW0];exact (Upd.refl [] w).alloc _
  rw [hW0] at hB0
  obtain ⟨hb,hhb⟩:∃hb,w.heap.size=hb:=⟨_,rfl⟩
  have hM1:=MapI.made Tryz.prog 3 W0
  obtain ⟨W1,hW1⟩:∃X,W0.alloc (.map #[] 0)=X:=⟨_,rfl⟩
  have U1:Upd [] [] W0 W1:=by rw [←hW1];exact (Upd.refl [] W0).alloc _
  have hB1:=hB0.alloc (.map #[] 0)
  rw [hW1] at hM1 hB1
  obtain ⟨bm,hbm⟩:∃bm,W0.heap.size=bm:=⟨_,rfl⟩
  rw [hbm] at hM1
  rw [hhb] at hB1
  have hbmS:w.heap.size≤bm:=by rw [←hbm];exact U0.size
  have hbl:hb < bm:=by have:=hB0.lt;rw [hbm,hhb] at this;exact this
  clear hB0
  go_enter Tryz.func105,Tryz.ntmps105
  repeat' (first|go_values|go_skip|go_guarded|go_step|go_upon|(simp only [];go_at_K))
  clear hmm hW0 hW1 hbm hhb
  have UA:Upd [] [] w W1:=U0.trans U1
  clear U0 U1
  have hB:=hB1
  clear hB1
  have C:=worldOf W1 hb 173
  unfold fnW at C
  ((with_reducible refine C.mono ?_);rintro e Wc1 ⟨d1,rfl,hD1,hl1,hu⟩)
  have hn1:bm≠d1:=by have h1:=(hu.fresh d1 (by simp)).resolve_left (by simp);have:=hM1.lt;omega
  have hB:=hB.upd hu (by simp)
  have hM:=hM1.upd hu (by simp)
  have UA:=UA.trans (hu.gives (b':=[]) (by simp))
  clear C hu
  repeat' ((fail_if_success (with_reducible refine stop_append rfl ?_));first|go_values|go_skip|go_guarded|go_step|go_upon|(simp only [];go_at_K))
  obtain ⟨Wi1,hrun,hM',hu⟩:=hM.store Tryz.underlying3 Tryz.underlying179 (by simp [maxLen]) (x:=1) (by decide) (fnS hb d1)
  rw [hrun]
  repeat' ((fail_if_success (with_reducible refine stop_append rfl ?_));first|go_values|go_skip|go_guarded|go_step|go_upon|(simp only [];go_at_K))
  have hB:=hB.upd hu (by simp only [List.mem_singleton];omega)
  have hD1:=hD1.upd hu (by simp only [List.mem_singleton];omega)
  have UA:Upd [] [] w Wi1:=UA.ownL (X:=[bm]) (Y:=[bm]) (by simpa using hbmS) hu
  have hM:MapI Tryz.prog 3 Wi1 bm [(1,fnS hb d1)]:=hM'
  clear hu hM' hrun
  obtain ⟨Wi2,hrun,hM',hu⟩:=hM.store Tryz.underlying3 Tryz.underlying179 (by simp [maxLen]) (x:=2) (by decide) (.func (.func 174) #[] #[.pointer (some ⟨hb,0,none⟩)])
  rw [hrun]
  repeat' ((fail_if_success (with_reducible refine stop_append rfl ?_));first|go_values|go_skip|go_guarded|go_step|go_upon|(simp only [];go_at_K))
  have hB:=hB.upd hu (by simp only [List.mem_singleton];omega)
  have hD1:=hD1.upd hu (by simp only [List.mem_singleton];omega)
  have UA:Upd [] [] w Wi2:=UA.ownL (X:=[bm]) (Y:=[bm]) (by simpa using hbmS) hu
  have hM:MapI Tryz.prog 3 Wi2 bm [(1,fnS hb d1),(2,fnW 174 hb)]:=hM'
  clear hu hM' hrun
  obtain ⟨Wi3,hrun,hM',hu⟩:=hM.store Tryz.underlying3 Tryz.underlying179 (by simp [maxLen]) (x:=3) (by decide) (.func (.func 176) #[] #[.pointer (some ⟨hb,0,none⟩)])
  rw [hrun]
  repeat' ((fail_if_success (with_reducible refine stop_append rfl ?_));first|go_values|go_skip|go_guarded|go_step|go_upon|(simp only [];go_at_K))
  have hB:=hB.upd hu (by simp only [List.mem_singleton];omega)
  have hD1:=hD1.upd hu (by simp only [List.mem_singleton];omega)
  have UA:Upd [] [] w Wi3:=UA.ownL (X:=[bm]) (Y:=[bm]) (by simpa using hbmS) hu
  have hM:MapI Tryz.prog 3 Wi3 bm [(1,fnS hb d1),(2,fnW 174 hb),(3,fnW 176 hb)]:=hM'
  clear hu hM' hrun
  obtain ⟨Wi4,hrun,hM',hu⟩:=hM.store Tryz.underlying3 Tryz.underlying179 (by simp [maxLen]) (x:=4) (by decide) (.func (.func 177) #[] #[.pointer (some ⟨hb,0,none⟩)])
  rw [hrun]
  repeat' (first|go_values|go_skip|go_guarded|go_step|go_upon|(simp only [];go_at_K))
  have hB:=hB.upd hu (by simp only [List.mem_singleton];omega)
  have hD1:=hD1.upd hu (by simp only [List.mem_singleton];omega)
  have UA:Upd [] [] w Wi4:=UA.ownL (X:=[bm]) (Y:=[bm]) (by simpa using hbmS) hu
  have hM:MapI Tryz.prog 3 Wi4 bm [(1,fnS hb d1),(2,fnW 174 hb),(3,fnW 176 hb),(4,fnW 177 hb)]:=hM'
  clear hu hM' hrun
  have C:=worldOf Wi4 hb 179
  unfold fnW at C
  ((with_reducible refine C.mono ?_);rintro e Wc5 ⟨d5,rfl,hD5,hl5,hu⟩)
  have hn5:bm≠d5:=by have h1:=(hu.fresh d5 (by simp)).resolve_left (by simp);have:=hM.lt;omega
  have hB:=hB.upd hu (by simp)
  have hD1:=hD1.upd hu (by simp)
  have hM:=hM.upd hu (by simp)
  have UA:=UA.trans (hu.gives (b':=[]) (by simp))
  clear C hu
  repeat' ((fail_if_success (with_reducible refine stop_append rfl ?_));first|go_values|go_skip|go_guarded|go_step|go_upon|(simp only [];go_at_K))
  obtain ⟨Wi5,hrun,hM',hu⟩:=hM.store Tryz.underlying3 Tryz.underlying179 (by simp [maxLen]) (x:=5) (by decide) (fnS hb d5)
  rw [hrun]
  repeat' (first|go_values|go_skip|go_guarded|go_step|go_upon|(simp only [];go_at_K))
  have hB:=hB.upd hu (by simp only [List.mem_singleton];omega)
  have hD1:=hD1.upd hu (by simp only [List.mem_singleton];omega)
  have hD5:=hD5.upd hu (by simp only [List.mem_singleton];omega)
  have UA:Upd [] [] w Wi5:=UA.ownL (X:=[bm]) (Y:=[bm]) (by simpa using hbmS) hu
  have hM:MapI Tryz.prog 3 Wi5 bm [(1,fnS hb d1),(2,fnW 174 hb),(3,fnW 176 hb),(4,fnW 177 hb),(5,fnS hb d5)]:=hM'
  clear hu hM' hrun
  have C:=worldOf Wi5 hb 180
  unfold fnW at C
  ((with_reducible refine C.mono ?_);rintro e Wc6 ⟨d6,rfl,hD6,hl6,hu⟩)
  have hn6:bm≠d6:=by have h1:=(hu.fresh d6 (by simp)).resolve_left (by simp);have:=hM.lt;omega
  have hB:=hB.upd hu (by simp)
  have hD1:=hD1.upd hu (by simp)
  have hD5:=hD5.upd hu (by simp)
  have hM:=hM.upd hu (by simp)
  have UA:=UA.trans (hu.gives (b':=[]) (by simp))
  clear C hu
  repeat' ((fail_if_success (with_reducible refine stop_append rfl ?_));first|go_values|go_skip|go_guarded|go_step|go_upon|(simp only [];go_at_K))
  obtain ⟨Wi6,hrun,hM',hu⟩:=hM.store Tryz.underlying3 Tryz.underlying179 (by simp [maxLen]) (x:=6) (by decide) (fnS hb d6)
  rw [hrun]
  repeat' (first|go_values|go_skip|go_guarded|go_step|go_upon|(simp only [];go_at_K))
  have hB:=hB.upd hu (by simp only [List.mem_singleton];omega)
  have hD1:=hD1.upd hu (by simp only [List.mem_singleton];omega)
  have hD5:=hD5.upd hu (by simp only [List.mem_singleton];omega)
  have hD6:=hD6.upd hu (by simp only [List.mem_singleton];omega)
  have UA:Upd [] [] w Wi6:=UA.ownL (X:=[bm]) (Y:=[bm]) (by simpa using hbmS) hu
  have hM:MapI Tryz.prog 3 Wi6 bm [(1,fnS hb d1),(2,fnW 174 hb),(3,fnW 176 hb),(4,fnW 177 hb),(5,fnS hb d5),(6,fnS hb d6)]:=hM'
  clear hu hM' hrun
  have C:=worldOf Wi6 hb 181
  unfold fnW at C
  ((with_reducible refine C.mono ?_);rintro e Wc7 ⟨d7,rfl,hD7,hl7,hu⟩)
  have hn7:bm≠d7:=by have h1:=(hu.fresh d7 (by simp)).resolve_left (by simp);have:=hM.lt;omega
  have hB:=hB.upd hu (by simp)
  have hD1:=hD1.upd hu (by simp)
  have hD5:=hD5.upd hu (by simp)
  have hD6:=hD6.upd hu (by simp)
  have hM:=hM.upd hu (by simp)
  have UA:=UA.trans (hu.gives (b':=[]) (by simp))
  clear C hu
  repeat' ((fail_if_success (with_reducible refine stop_append rfl ?_));first|go_values|go_skip|go_guarded|go_step|go_upon|(simp only [];go_at_K))
  obtain ⟨Wi7,hrun,hM',hu⟩:=hM.store Tryz.underlying3 Tryz.underlying179 (by simp [maxLen]) (x:=7) (by decide) (fnS hb d7)
  rw [hrun]
  repeat' (first|go_values|go_skip|go_guarded|go_step|go_upon|(simp only [];go_at_K))
  have hB:=hB.upd hu (by simp only [List.mem_singleton];omega)
  have hD1:=hD1.upd hu (by simp only [List.mem_singleton];omega)
  have hD5:=hD5.upd hu (by simp only [List.mem_singleton];omega)
  have hD6:=hD6.upd hu (by simp only [List.mem_singleton];omega)
  have hD7:=hD7.upd hu (by simp only [List.mem_singleton];omega)
  have UA:Upd [] [] w Wi7:=UA.ownL (X:=[bm]) (Y:=[bm]) (by simpa using hbmS) hu
  have hM:MapI Tryz.prog 3 Wi7 bm [(1,fnS hb d1),(2,fnW 174 hb),(3,fnW 176 hb),(4,fnW 177 hb),(5,fnS hb d5),(6,fnS hb d6),(7,fnS hb d7)]:=hM'
  clear hu hM' hrun
  have C:=worldOf Wi7 hb 182
  unfold fnW at C
  ((with_reducible refine C.mono ?_);rintro e Wc8 ⟨d8,rfl,hD8,hl8,hu⟩)
  have hn8:bm≠d8:=by have h1:=(hu.fresh d8 (by simp)).resolve_left (by simp);have:=hM.lt;omega
  have hB:=hB.upd hu (by simp)
  have hD1:=hD1.upd hu (by simp)
  have hD5:=hD5.upd hu (by simp)
  have hD6:=hD6.upd hu (by simp)
  have hD7:=hD7.upd hu (by simp)
  have hM:=hM.upd hu (by simp)
  have UA:=UA.trans (hu.gives (b':=[]) (by simp))
  clear C hu
  repeat' ((fail_if_success (with_reducible refine stop_append rfl ?_));first|go_values|go_skip|go_guarded|go_step|go_upon|(simp only [];go_at_K))
  obtain ⟨Wi8,hrun,hM',hu⟩:=hM.store Tryz.underlying3 Tryz.underlying179 (by simp [maxLen]) (x:=8) (by decide) (fnS hb d8)
  rw [hrun]
  repeat' (first|go_values|go_skip|go_guarded|go_step|go_upon|(simp only [];go_at_K))
  have hB:=hB.upd hu (by simp only [List.mem_singleton];omega)
  have hD1:=hD1.upd hu (by simp only [List.mem_singleton];omega)
  have hD5:=hD5.upd hu (by simp only [List.mem_singleton];omega)
  have hD6:=hD6.upd hu (by simp only [List.mem_singleton];omega)
  have hD7:=hD7.upd hu (by simp only [List.mem_singleton];omega)
  have hD8:=hD8.upd hu (by simp only [List.mem_singleton];omega)
  have UA:Upd [] [] w Wi8:=UA.ownL (X:=[bm]) (Y:=[bm]) (by simpa using hbmS) hu
  have hM:MapI Tryz.prog 3 Wi8 bm [(1,fnS hb d1),(2,fnW 174 hb),(3,fnW 176 hb),(4,fnW 177 hb),(5,fnS hb d5),(6,fnS hb d6),(7,fnS hb d7),(8,fnS hb d8)]:=hM'
  clear hu hM' hrun
  go_ret
  exact ⟨hb,bm,d1,d5,d6,d7,d8,rfl,hM,hB,hD1,hD5,hD6,hD7,hD8,UA⟩
end Go.Proofs.YtijhlbeipglieaaGreat
namespace Go.Proofs.YtijhlbeipglieaaGreat
open Go.RowKit Agio Go.Maps
def HapC (k:Nat) (args:Array Value) (w:World) (V:WV) (R:Wd × Int × Int):Prop:=
  Calls Tryz.prog k args w fun e w'=>e= .returned (.tuple #[.int .i64 R.2.1,.int .i64 R.2.2])∧Wone w w' V R.1
theorem WV.place_pl (V:WV) (s:Int):(V.pl.place s=none∧V.at_ s=none)∨∃(i:Nat) (M:SiteV),s=(i:Int)∧V.pl.place s=some i∧V.ss[i]? =some M∧V.pl.ss[i]? =some M.pl:=by
  have hl:V.pl.ss.length=V.ss.length:=by unfold WV.pl;simp
  unfold Wd.place WV.at_
  rw [hl]
  by_cases h:0≤s∧s < (V.ss.length:Int)
  · right
    obtain ⟨i,rfl⟩:∃i:Nat,s=(i:Int):=⟨s.toNat,by omega⟩
    have hi:i < V.ss.length:=by omega
    have hM:V.ss[i]? =some V.ss[i]:=List.getElem?_eq_getElem hi
    exact ⟨i,V.ss[i],rfl,by rw [if_pos h];rfl,hM,by rw [V.ss_pl,hM];rfl⟩
  · left
    rw [if_neg h]
    refine ⟨rfl,?_⟩
    split
    · exact List.getElem?_eq_none (by omega)
    · rfl
theorem hapAt (w:World) (V:WV) (h:WS w V) (hb d1 d5 d6 d7 d8:Nat) (hB:Wbox w hb V) (h1:Blk w d1 178 #[fnW 173 hb]) (h5:Blk w d5 178 #[fnW 179 hb])
    (h6:Blk w d6 178 #[fnW 180 hb]) (h7:Blk w d7 178 #[fnW 181 hb]) (h8:Blk w d8 178 #[fnW 182 hb])
    (x:Ev) (hr:RdB w x.A x.l x.b) (hl:x.b.length≤140737488355328) (hL:∀(i:Nat) s,V.pl.ss[i]? =some s→Lv s 300) (F:Value) (hF:(lookK x.k (hapL hb d1 d5 d6 d7 d8)).getD .nilFunc=F) :
    (∃d,F=fnS hb d∧HapC 172 #[x.val,.pointer (some ⟨hb,0,none⟩),.pointer (some ⟨d,0,none⟩)] w V (V.pl.do_ x.k x.s x.at_ x.n x.b))∨
    (F=fnW 174 hb∧HapC 174 #[x.val,.pointer (some ⟨hb,0,none⟩)] w V (V.pl.do_ x.k x.s x.at_ x.n x.b))∨
    (F=fnW 176 hb∧HapC 176 #[x.val,.pointer (some ⟨hb,0,none⟩)] w V (V.pl.do_ x.k x.s x.at_ x.n x.b))∨
    (F=fnW 177 hb∧HapC 177 #[x.val,.pointer (some ⟨hb,0,none⟩)] w V (V.pl.do_ x.k x.s x.at_ x.n x.b))∨
    (F= .nilFunc∧V.pl.do_ x.k x.s x.at_ x.n x.b=(V.pl,0,1)):=by
  have hL0:∀(i:Nat) s,V.pl.ss[i]? =some s→Lv s 0:=fun i s hs=>by
    obtain ⟨S,⟨R,z,h1,h2⟩ | h1⟩:=hL i s hs
    · exact ⟨S,.inl ⟨R,z,h1,by omega⟩⟩
    · exact ⟨S,.inr h1⟩
  have NO:∀d (f:Nat→Wd × Int × Int),V.at_ x.s=none→V.pl.place x.s=none→HapC 172 #[x.val,.pointer (some ⟨hb,0,none⟩),.pointer (some ⟨d,0,none⟩)] w V (V.pl.atSite x.s f):=fun d f hn hp=>by
    unfold HapC Wd.atSite
    rw [hp]
    refine (worldOfNo w V h hb hB x d hn).mono ?_
    rintro e w' ⟨rfl,hu⟩
    exact ⟨rfl,V,h.upd0 hu,rfl,rfl,hu.up _⟩
  have YES:∀d k (f:Nat→Wd × Int × Int) (i:Nat) (M:SiteV),siteFn k→Blk w d 178 #[fnW k hb]→x.s=(i:Int)→V.pl.place x.s=some i→V.ss[i]? =some M→
      (∀w1,WS w1 V→Wbox w1 hb V→RdB w1 x.A x.l x.b→HapC k #[x.val,.pointer (some ⟨hb,0,none⟩)] w1 V (f i))→HapC 172 #[x.val,.pointer (some ⟨hb,0,none⟩),.pointer (some ⟨d,0,none⟩)] w V (V.pl.atSite x.s f):=fun d k f i M hk hd hs hp hM hc=>by
    unfold Wd.atSite
    rw [hp]
    exact worldOfYes w V h hb hB x d k hk hd i hs M hM _ _ _ fun w1 hu=>hc w1 (h.upd0 hu) (Blk.upd hB hu (by simp)) (hr.upd hu (by simp))
  have SITE:∀d k (f:Nat→Wd × Int × Int),siteFn k→Blk w d 178 #[fnW k hb]→(∀(i:Nat) (M:SiteV),x.s=(i:Int)→V.ss[i]? =some M→V.pl.ss[i]? =some M.pl→∀w1,WS w1 V→Wbox w1 hb V→RdB w1 x.A x.l x.b→HapC k #[x.val,.pointer (some ⟨hb,0,none⟩)] w1 V (f i))→
      HapC 172 #[x.val,.pointer (some ⟨hb,0,none⟩),.pointer (some ⟨d,0,none⟩)] w V (V.pl.atSite x.s f):=fun d k f hk hd hc=>by
    rcases V.place_pl x.s with ⟨hp,hn⟩ | ⟨i,M,hs,hp,hM,hMp⟩
    · exact NO d f hn hp
    · exact YES d k f i M hk hd hs hp hM (hc i M hs hM hMp)
  have thr:∀a:Int,V.pl.has a=thereB V.net.length a:=fun _=>rfl
  unfold Wd.do_
  by_cases k1:x.k=1
  · left
    rw [k1] at hF
    rw [if_pos k1]
    refine ⟨d1,hF.symm,SITE d1 _ _ (by unfold siteFn;omega) h1 fun i M hs hM hMp w1 g1 g2 g3=>?_⟩
    have e1:V.pl.subm x.b i=({V.pl with ss:=V.pl.ss.set i (M.pl.submit x.b).1},(M.pl.submit x.b).2.1,(M.pl.submit x.b).2.2):=by unfold Wd.subm;rw [hMp]
    rw [e1]
    exact worldSubmitF w1 V g1 hb g2 x i hs M hM (hL0 i _ hMp) g3 hl
  rw [if_neg k1]
  by_cases k2:x.k=2
  · right;left
    rw [k2] at hF
    rw [if_pos k2]
    refine ⟨hF.symm,?_⟩
    rw [thr]
    exact worldDeliverF w V h hb hB x hL0
  rw [if_neg k2]
  by_cases k3:x.k=3
  · right;right;left
    rw [k3] at hF
    rw [if_pos k3]
    refine ⟨hF.symm,?_⟩
    rw [thr]
    exact worldDropF w V h hb hB x
  rw [if_neg k3]
  by_cases k4:x.k=4
  · right;right;right;left
    rw [k4] at hF
    rw [if_pos k4]
    refine ⟨hF.symm,?_⟩
    rw [thr]
    exact worldDoubleF w V h hb hB x
  rw [if_neg k4]
  by_cases k5:x.k=5
  · left
    rw [k5] at hF
    rw [if_pos k5]
    refine ⟨d5,hF.symm,SITE d5 _ _ (by unfold siteFn;omega) h5 fun i M hs hM hMp w1 g1 g2 g3=>?_⟩
    have e1:V.pl.deed i Site.tick= {V.pl with ss:=V.pl.ss.set i M.pl.tick}:=by unfold Wd.deed;rw [hMp]
    rw [e1]
    exact worldTickF w1 V g1 hb g2 x i hs M hM (hL i _ hMp)
  rw [if_neg k5]
  by_cases k6:x.k=6
  · left
    rw [k6] at hF
    rw [if_pos k6]
    refine ⟨d6,hF.symm,SITE d6 _ _ (by unfold siteFn;omega) h6 fun i M hs hM hMp w1 g1 g2 g3=>?_⟩
    exact worldSyncF w1 V g1 hb g2 x i hs (hL0 i)
  rw [if_neg k6]
  by_cases k7:x.k=7
  · left
    rw [k7] at hF
    rw [if_pos k7]
    refine ⟨d7,hF.symm,SITE d7 _ _ (by unfold siteFn;omega) h7 fun i M hs hM hMp w1 g1 g2 g3=>?_⟩
    have e1:(V.pl.deed i fun t=>t.crash x.n)= {V.pl with ss:=V.pl.ss.set i (M.pl.crash x.n)}:=by unfold Wd.deed;rw [hMp]
    rw [e1]
    exact worldCrashF w1 V g1 hb g2 x i hs M hM
  rw [if_neg k7]
  by_cases k8:x.k=8
  · left
    rw [k8] at hF
    rw [if_pos k8]
    refine ⟨d8,hF.symm,SITE d8 _ _ (by unfold siteFn;omega) h8 fun i M hs hM hMp w1 g1 g2 g3=>?_⟩
    exact worldRestartF w1 V g1 hb g2 x i hs M hM
  rw [if_neg k8]
  right;right;right;right
  refine ⟨?_,rfl⟩
  rw [←hF]
  have:lookK x.k (hapL hb d1 d5 d6 d7 d8)=none:=by
    unfold hapL
    simp [lookK,k1,k2,k3,k4,k5,k6,k7,Ne.symm k1,Ne.symm k2,Ne.symm k3,Ne.symm k4,Ne.symm k5,Ne.symm k6,Ne.symm k7,Ne.symm k8]
  rw [this];rfl
theorem worldDo (w:World) (V:WV) (h:WS w V) (x:Ev) (hwf:(Lit.int .i64 x.k).wf=true) (hr:RdB w x.A x.l x.b) (hl:x.b.length≤140737488355328) (hL:∀(i:Nat) s,V.pl.ss[i]? =some s→Lv s 300) :
    HapC 44 #[V.ptr,x.val] w V (V.pl.do_ x.k x.s x.at_ x.n x.b):=by
  obtain ⟨W,H,eW,hH,hBx,U0⟩:=boxes1 w 85 #[.int .i64 x.k,.int .i64 x.s,.int .i64 x.at_,.int .i64 x.n,.slice x.A x.l x.c]
  have U0':=U0.gives (b':=[]) (by simp)
  have C:=worldHap W.drew V.gw
  have a:W.drew.cell? ⟨H,0,none⟩=some (.int .i64 x.k):=hBx.cell 0
  have hzf:∀w,(zeroValue 178).run Tryz.prog w= .ok .nilFunc w:=Tryz.zeroValue178
  have HA:=Lib.hid (fun (w1:World) (hu:Upd [] [] W.drew w1) hb d1 d5 d6 d7 d8 a b c d e f hr' F hF=>hapAt w1 V ((h.upd0 U0'.drew).upd0 hu) hb d1 d5 d6 d7 d8 a b c d e f x hr' hl hL F hF)
  have HR:=Lib.hid (fun (w1:World) (hu:Upd [] [] W.drew w1)=>(hr.upd (U0'.drew) (by simp)).upd hu (by simp))
  have HX:=Lib.hid (fun (w1:World) (hu:Upd [] [] W.drew w1)=>show w1.cell? ⟨H,0,none⟩=_ from hu.cell a (by simp))
  have HV:=Lib.hid (fun (w1:World) (hu:Upd [] [] W.drew w1)=>(hBx.drew.upd hu (by simp)))
  have HWF:=Lib.hid hwf
  have neF:∀(k:Nat) (a b:Array Value) w,(binOp .eql 178 (.func (.func k) a b) .nilFunc).run Tryz.prog w= .ok (.bool false) w:=fun k a b w=>rfl
  have eqF:∀w,(binOp .eql 178 .nilFunc .nilFunc).run Tryz.prog w= .ok (.bool true) w:=fun w=>rfl
  have HK:=Lib.hid (fun (w1 w2:World) (p:Wd) (hu:Upd [] [] W.drew w1) (hg:Wone w1 w2 V p)=>show Wone w w2 V p from (hg.pre hu).pre U0'.drew)
  have HN:=Lib.hid (fun (w1:World) (hu:Upd [] [] W.drew w1)=>show Wone w w1 V V.pl from ⟨V,(h.upd0 U0'.drew).upd0 hu,rfl,rfl,((U0'.drew).trans hu).up _⟩)
  obtain ⟨R,hR⟩:∃R,V.pl.do_ x.k x.s x.at_ x.n x.b=R:=⟨_,rfl⟩
  rw [hR] at HA ⊢
  unfold HapC
  rw [Ev.val_eq,WV.ptr]
  have HXV:=Lib.hid (Ev.val_eq x)
  clear h hr hL hR hBx hwf
  go_enter Tryz.func44,Tryz.ntmps44
  repeat' (first|go_values|go_skip|go_guarded|go_step|go_upon|(simp only [];go_at_K))
  go_region_held3 (fun w'=>w'.cell? ⟨H,0,none⟩=some (.int .i64 x.k)) (first | exact a | exact a2)
    (first
      | (go_at_call 105;(with_reducible refine C.mono ?_);rintro e w2 ⟨hb,bm,d1,d5,d6,d7,d8,rfl,hM,hB,h1,h5,h6,h7,h8,hu⟩;have a2:=HX.out w2 hu;obtain ⟨F,hF⟩:∃F,(lookK x.k (hapL hb d1 d5 d6 d7 d8)).getD .nilFunc=F:=⟨_,rfl⟩;have hlk:=hM.look Tryz.underlying3 Tryz.underlying179 (hzf w2) (x:=x.k) HWF.out;rw [hF] at hlk))
  all_goals have A:=HA.out w2 hu hb d1 d5 d6 d7 d8 hB h1 h5 h6 h7 h8 (HR.out w2 hu) F hF
  all_goals obtain ⟨⟨b0,b1,b2,b3,b4⟩,-⟩:=(HV.out w2 hu).c5
  all_goals clear hM hB h1 h5 h6 h7 h8 hlk hF C a hzf
  all_goals unfold HapC at A
  all_goals rw [HXV.out] at A
  all_goals rcases A with ⟨d,rfl,A⟩ | ⟨rfl,A⟩ | ⟨rfl,A⟩ | ⟨rfl,A⟩ | ⟨rfl,A⟩
  all_goals try unfold fnS
  all_goals try unfold fnW
  all_goals (repeat' (first | go_values | go_skip | go_guarded | go_step | go_upon | (simp only [];go_at_K)))
  all_goals first
    | (((with_reducible refine A.mono ?_);rintro e w3 ⟨rfl,hg⟩)
       repeat' (first|go_values|go_skip|go_guarded|go_step|go_upon|(simp only [];go_at_K))
       go_ret2
       exact ⟨rfl,HK.out w2 w3 _ hu hg⟩)
    | (go_ret2
       rw [A]
       exact ⟨rfl,HN.out w2 hu⟩)
end Go.Proofs.YtijhlbeipglieaaGreat
