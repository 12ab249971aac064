/- Merged: Learn, Learn2, Learn3, Learn4. -/
import Derived.Test.YtijhlbeipglieaaGreatPkAcc
set_option linter.all false
set_option maxRecDepth 100000
set_option maxHeartbeats 4000000
namespace Agio
open Go
structure Bsl where
 A:Option Addr
 n:Nat
 c:Nat
 b:List UInt8
def Bsl.val (x:Bsl):Value:=.slice x.A x.n x.c
def Bsl.rd (w:World) (x:Bsl):Prop:=RdB w x.A x.n x.b
end Agio
namespace Go.Proofs.YtijhlbeipglieaaGreat
open Go.RowKit Agio Go.Maps
structure LrnS (w:World) (gl bl:Nat) (L:AL Bsl) (t:Nat):Prop where
 blk:Blk w gl 222 #[.map (some bl),.int .i64 (t:Int)]
 map:MapI Tryz.prog 3 w bl (mapG Bsl.val L)
 keys:∀p∈L,0≤p.1∧p.1 < 4096∧p.2.b.length≤2048
 ne:gl≠bl
 t:t≤4096
theorem LrnS.upd {w w':World} {gl bl:Nat} {L:AL Bsl} {t:Nat} {a b:List Nat} (h:LrnS w gl bl L t) (hu:Upd a b w w') (h1:gl∉a) (h2:bl∉a):LrnS w' gl bl L t:=
 ⟨h.blk.upd hu h1,h.map.upd hu h2,h.keys,h.ne,h.t⟩
theorem zeroSlice (w:World):(zeroValue 28).run Tryz.prog w= .ok (.slice none 0 0) w:=Tryz.zeroValue28 w
theorem LrnS.look {w:World} {gl bl:Nat} {L:AL Bsl} {t:Nat} (h:LrnS w gl bl L t) {x:Int} (hx:(Lit.int .i64 x).wf=true) :
  (Instr.lookup 220 (.map (some bl)) (.int .i64 x) true).run Tryz.prog w= .ok (.tuple #[(((lookG x L).map Bsl.val).getD (.slice none 0 0)),.bool (lookG x L).isSome]) w:=by
 have:=h.map.look_ok Tryz.underlying3 Tryz.underlying220 (zeroSlice w) hx
 rw [lookK_G,lookG_map] at this
 simpa using this
theorem learnNew (w:World):Calls Tryz.prog 129 #[] w fun e w'=>∃gl bl,e= .returned (.pointer (some ⟨gl,0,none⟩))∧LrnS w' gl bl [] 0∧Upd [] [gl,bl] w w':=by
 have hmm:=@run_makeMap Tryz.prog
 have m1:=(MapI.made Tryz.prog 3 w).alloc (.cells #[.map (some w.heap.size),.int .i64 0] 222)
 have hb:=Blk.new (w.alloc (.map #[] 0)) 222 #[.map (some w.heap.size),.int .i64 0]
 rw [World.size_alloc] at hb
 have U:Upd [] [w.heap.size + 1,w.heap.size] w ((w.alloc (.map #[] 0)).alloc (.cells #[.map (some w.heap.size),.int .i64 0] 222)):=(((Upd.refl [] w).alloc _).alloc _).gives (by simp)
 have key:=Lib.hid (show LrnS ((w.alloc (.map #[] 0)).alloc (.cells #[.map (some w.heap.size),.int .i64 0] 222)) (w.heap.size + 1) w.heap.size [] 0 from ⟨hb,m1,by simp,by omega,by omega⟩)
 clear m1 hb
 go_enter Tryz.func129,Tryz.ntmps129
 repeat' (first|go_values|go_skip|go_guarded|go_step|go_upon|(simp only [];go_at_K))
 go_ret
 exact ⟨_,_,rfl,key.out,U⟩
theorem learnGet (w:World) (gl bl:Nat) (L:AL Bsl) (t:Nat) (h:LrnS w gl bl L t) (hr:∀p∈L,p.2.rd w) (x:Int) (hx:(Lit.int .i64 x).wf=true) :
  Calls Tryz.prog 93 #[.pointer (some ⟨gl,0,none⟩),.int .i64 x] w fun e w'=>∃A n c,e= .returned (.tuple #[.slice A n c,.bool (lookG x L).isSome])∧OwnB 5 w' A n c (((lookG x L).map Bsl.b).getD [])∧Upd [] (ablk A) w w':=by
 have hl:=h.look hx
 obtain ⟨⟨q0,q1⟩,-⟩:=h.blk.c2
 have hlen:∀y,lookG x L=some y→y.rd w∧y.b.length≤2048:=fun y hy=>⟨hr _ (lookG_some hy),(h.keys _ (lookG_some hy)).2.2⟩
 clear h hr
 go_enter Tryz.func93,Tryz.ntmps93
 cases hy:lookG x L with
 | none=>
  rw [hy] at hl
  have C:=bytesClone w none 0 0 [] (RdB.nil _ _) (by simp)
  repeat' (first|go_values|go_skip|go_guarded|go_step|go_upon|(simp only [];go_at_K))
  ((with_reducible refine C.mono ?_);rintro e w2 ⟨A,n,c,rfl,ho,hu⟩)
  repeat' (first|go_values|go_skip|go_guarded|go_step|go_upon|(simp only [];go_at_K))
  go_ret2
  exact ⟨A,n,c,rfl,ho,hu⟩
 | some y=>
  rw [hy] at hl
  obtain ⟨h1,h2⟩:=hlen y hy
  have C:=bytesClone w y.A y.n y.c y.b h1 (by omega)
  simp only [Option.map_some,Option.getD_some,Option.isSome_some,Bsl.val] at hl ⊢
  repeat' (first|go_values|go_skip|go_guarded|go_step|go_upon|(simp only [];go_at_K))
  ((with_reducible refine C.mono ?_);rintro e w2 ⟨A,n,c,rfl,ho,hu⟩)
  repeat' (first|go_values|go_skip|go_guarded|go_step|go_upon|(simp only [];go_at_K))
  go_ret2
  exact ⟨A,n,c,rfl,ho,hu⟩
end Go.Proofs.YtijhlbeipglieaaGreat
namespace Agio
open Go
theorem rising_len:∀(l:List Int) (a b:Int),l.Pairwise (· < ·)→(∀x∈l,a≤x∧x < b)→a≤b→(l.length:Int)≤b - a
 | [],a,b,_,_,h=>by simp;omega
 | x :: l,a,b,hp,hb,h=>by
  have hx:=hb x (by simp)
  have:=rising_len l (x + 1) b (List.pairwise_cons.1 hp).2 (fun y hy=>⟨by have:=(List.pairwise_cons.1 hp).1 y hy;omega,(hb y (List.mem_cons_of_mem _ hy)).2⟩) (by omega)
  rw [List.length_cons];omega
def putCode (L:AL Bsl) (s:Int) (v:List UInt8):Int:=
 if s < 0∨4096≤s∨2048 < v.length then 1 else match lookG s L with | some y=>if y.b=v then 0 else 7 | none=>0
def putsIn (L:AL Bsl) (s:Int) (v:List UInt8):Bool:=!(decide (s < 0) || decide (4096≤s) || decide (2048 < v.length)) && (lookG s L).isNone
def frontG {α:Type} (L:AL α):Nat→Nat→Nat
 | 0,s=>s
 | k + 1,s=>if (lookG (s:Int) L).isSome then frontG L k (s + 1) else s
end Agio
namespace Go.Proofs.YtijhlbeipglieaaGreat
open Go.RowKit Agio Go.Maps
theorem LrnS.len {w:World} {gl bl:Nat} {L:AL Bsl} {t:Nat} (h:LrnS w gl bl L t):L.length≤4096:=by
 have hs:=h.map.sorted (int_keyed Tryz.underlying3)
 have:=rising_len (L.map Prod.fst) 0 4096 (by
  unfold mapG at hs
  rw [List.pairwise_map] at hs ⊢
  exact hs) (fun x hx=>by
  obtain ⟨p,hp,rfl⟩:=List.mem_map.1 hx
  have:=h.keys p hp;omega) (by omega)
 simp at this
 omega
theorem learnFrontier (w:World) (gl bl:Nat) (L:AL Bsl) (t:Nat) (h:LrnS w gl bl L t) :
  Calls Tryz.prog 77 #[.pointer (some ⟨gl,0,none⟩)] w fun e w'=>e= .returned (.int .i64 (frontG L (4096 - t) t:Nat))∧w=w':=by
 obtain ⟨⟨q0,q1⟩,-⟩:=h.blk.c2
 have ht:=h.t
 obtain ⟨R,hR⟩:∃R,frontG L (4096 - t) t=R:=⟨_,rfl⟩
 have HR0:=Lib.hid hR
 rw [hR]
 clear hR
 go_enter Tryz.func77,Tryz.ntmps77
 repeat' (first|go_values|go_skip|go_guarded|go_step|go_upon|(simp only [];go_at_K))
 go_loopw [3] (fun v3 wr=>∃i:Nat,i≤4096∧v3= .int .i64 (i:Int)∧frontG L (4096 - i) i=R∧wr=w) (fun v3 _=>4096 - (intOf v3).toNat)
 case atStart=>exact ⟨t,by omega,rfl,HR0.out,rfl⟩
 case round=>
  obtain ⟨i,hi,rfl,hr,rfl⟩:=hrel
  have H:=Lib.hid hr
  clear hr HR0
  by_cases hlt:i < 4096
  ·have hil:(i:Int) < 4096:=by omega
   have hw1:IntKind.i64.wrap ((i:Int) + 1)=(i:Int) + 1:=by rw [IntKind.wrap_i64];omega
   have hl:=h.look (x:=(i:Int)) (wfI (by omega) (by omega))
   have hstep:(if (lookG (i:Int) L).isSome then frontG L (4096 - (i + 1)) (i + 1) else i)=R:=by
    rw [←H.out,show 4096 - i=(4096 - (i + 1)) + 1 from by omega,frontG]
   have HT:=Lib.hid hstep
   clear hstep H h
   cases hy:lookG (i:Int) L with
   | none=>
    rw [hy] at hl HT
    have HE:=Lib.hid hy
    clear hy
    repeat' (first|go_values|go_skip|go_guarded|go_step|go_upon|(simp only [];go_at_K))
    go_ret
    exact ⟨by rw [←HT.out];rfl,rfl⟩
   | some y=>
    rw [hy] at hl HT
    have HE:=Lib.hid hy
    clear hy
    repeat' (first|go_values|go_skip|go_guarded|go_step|go_upon|(simp only [];go_at_K))
    exact ⟨⟨i + 1,by omega,rfl,by rw [←HT.out];rfl,trivial⟩,by simp [intOf];omega⟩
  ·have hil:¬ ((i:Int) < 4096):=by omega
   have HR:R=i:=by rw [←H.out,show 4096 - i=0 from by omega,frontG]
   have HS:=Lib.hid HR
   clear HR H h
   repeat' (first|go_values|go_skip|go_guarded|go_step|go_upon|(simp only [];go_at_K))
   go_ret
   exact ⟨by rw [HS.out];rfl,rfl⟩
theorem learnPutNot (w:World) (gl bl:Nat) (L:AL Bsl) (t:Nat) (h:LrnS w gl bl L t) (hr:∀p∈L,p.2.rd w) (x:Int) (hx:(Lit.int .i64 x).wf=true)
  (B:Option Addr) (m d:Nat) (v:List UInt8) (hv:RdB w B m v) (hp:putsIn L x v=false) :
  Calls Tryz.prog 277 #[.pointer (some ⟨gl,0,none⟩),.int .i64 x,.slice B m d] w fun e w'=>e= .returned (.int .i64 (putCode L x v))∧w=w':=by
 have hl:=h.look hx
 obtain ⟨⟨q0,q1⟩,-⟩:=h.blk.c2
 have hm:m=v.length:=hv.len
 have hlen:∀y,lookG x L=some y→y.rd w:=fun y hy=>hr _ (lookG_some hy)
 obtain ⟨R,hR⟩:∃R,putCode L x v=R:=⟨_,rfl⟩
 have HR:=Lib.hid hR
 rw [hR]
 clear hR h hr
 have HM:=Lib.hid hm
 go_enter Tryz.func277,Tryz.ntmps277
 by_cases h1:x < 0
 ·have d1:decide (x < 0)=true:=decide_eq_true h1
  clear hm
  repeat' (first|go_values|go_skip|go_guarded|go_step|go_upon|(simp only [];go_at_K))
  go_ret
  exact ⟨by rw [←HR.out,putCode,if_pos (by omega)];rfl,rfl⟩
 have d1:decide (x < 0)=false:=decide_eq_false h1
 by_cases h2:4096≤x
 ·have d2:decide (4096≤x)=true:=decide_eq_true h2
  clear hm
  repeat' (first|go_values|go_skip|go_guarded|go_step|go_upon|(simp only [];go_at_K))
  go_ret
  exact ⟨by rw [←HR.out,putCode,if_pos (by omega)];rfl,rfl⟩
 have d2:decide (4096≤x)=false:=decide_eq_false h2
 by_cases h3:2048 < m
 ·have d3:decide ((2048:Int) < (m:Int))=true:=decide_eq_true (by omega)
  clear hm
  repeat' (first|go_values|go_skip|go_guarded|go_step|go_upon|(simp only [];go_at_K))
  go_ret
  exact ⟨by rw [←HR.out,putCode,if_pos (by have:=HM.out;omega)];rfl,rfl⟩
 have d3:decide ((2048:Int) < (m:Int))=false:=decide_eq_false (by omega)
 have hno:¬ (x < 0∨4096≤x∨2048 < v.length):=by omega
 clear hm
 cases hy:lookG x L with
 | none=>
  exfalso
  simp only [putsIn,hy,decide_eq_false h1,decide_eq_false h2,decide_eq_false (show ¬ 2048 < v.length by omega)] at hp
  simp at hp
 | some y=>
  have hyr:=hlen y hy
  rw [hy] at hl
  simp only [Option.map_some,Option.getD_some,Option.isSome_some,Bsl.val] at hl
  have C:=bytesEqual w y.A B y.n y.c m d y.b v hyr hv
  have HN:=Lib.hid hno
  have HY:=Lib.hid hy
  clear hno hy hyr hv hlen hp h3
  repeat' (first|go_values|go_skip|go_guarded|go_step|go_upon|(simp only [];go_at_K))
  ((with_reducible refine C.mono ?_);rintro e w2 ⟨rfl,rfl⟩)
  clear C
  cases hq:(y.b == v) with
  | false=>
   repeat' (first|go_values|go_skip|go_guarded|go_step|go_upon|(simp only [];go_at_K))
   go_ret
   exact ⟨by rw [←HR.out,putCode,if_neg HN.out,HY.out];simp only [];rw [if_neg (by simpa using hq)];rfl,rfl⟩
  | true=>
   repeat' (first|go_values|go_skip|go_guarded|go_step|go_upon|(simp only [];go_at_K))
   go_ret
   exact ⟨by rw [←HR.out,putCode,if_neg HN.out,HY.out];simp only [];rw [if_pos (by simpa using hq)];rfl,rfl⟩
end Go.Proofs.YtijhlbeipglieaaGreat
namespace Go.Proofs.YtijhlbeipglieaaGreat
open Go.RowKit Agio Go.Maps
theorem learnPutNew (w:World) (gl bl:Nat) (L:AL Bsl) (t:Nat) (h:LrnS w gl bl L t) (x:Int)
  (B:Option Addr) (m d:Nat) (v:List UInt8) (hv:RdB w B m v) (hp:putsIn L x v=true) :
  Calls Tryz.prog 277 #[.pointer (some ⟨gl,0,none⟩),.int .i64 x,.slice B m d] w fun e w'=>∃A n c,e= .returned (.int .i64 0)∧
   LrnS w' gl bl (putG x ⟨A,n,c,v⟩ L) t∧OwnB 5 w' A n c v∧(∀k∈ablk A,w.heap.size≤k)∧Upd [bl] [bl] w w':=by
 have hp':(0≤x∧x < 4096∧v.length≤2048)∧lookG x L=none:=by
  simp only [putsIn,Bool.and_eq_true,Bool.not_eq_true',Bool.or_eq_false_iff,decide_eq_false_iff_not,Option.isNone_iff_eq_none] at hp
  exact ⟨by omega,hp.2⟩
 clear hp
 obtain ⟨⟨hx0,hx1,hvl⟩,hno⟩:=hp'
 have hwf:(Lit.int .i64 x).wf=true:=wfI (by omega) (by omega)
 have hl:=h.look hwf
 obtain ⟨⟨q0,q1⟩,-⟩:=h.blk.c2
 have hm:m=v.length:=hv.len
 rw [hno] at hl
 have d1:decide (x < 0)=false:=decide_eq_false (by omega)
 have d2:decide (4096≤x)=false:=decide_eq_false (by omega)
 have d3:decide ((2048:Int) < (m:Int))=false:=decide_eq_false (by omega)
 have HM:=Lib.hid hm
 clear hm
 have C:=bytesClone w.drew B m d v hv (by omega)
 have fin:∀A n c w2,OwnB 5 w2 A n c v→Upd [] (ablk A) w.drew w2→∃w3,(Instr.mapUpdate 220 (.map (some bl)) (.int .i64 x) (.slice A n c)).run Tryz.prog w2= .ok () w3∧
   LrnS w3 gl bl (putG x ⟨A,n,c,v⟩ L) t∧OwnB 5 w3 A n c v∧(∀k∈ablk A,w.heap.size≤k)∧Upd [bl] [bl] w w3:=by
  intro A n c w2 ho hu
  have h2:=h.upd ((Upd.refl [] w).drew.trans hu) (by simp) (by simp)
  have hA:=(Upd.refl [] w).drew.new hu
  obtain ⟨w3,hrun,hm3,hu3⟩:=h2.map.store Tryz.underlying3 Tryz.underlying220 (by rw [mapG_len];have:=h.len;unfold maxLen;omega) hwf (.slice A n c)
  have hbl:=h.map.lt
  refine ⟨w3,hrun,⟨h2.blk.upd hu3 (by simp;exact h.ne),?_,?_,h.ne,h.t⟩,ho.upd hu3 (fun k hk=>by have:=hA k hk;simp;omega),hA,?_⟩
  ·rw [putK_G] at hm3
   rw [putG_map]
   exact hm3
  ·intro p hp
   rcases mem_putG.1 hp with rfl | ⟨hp,-⟩
   ·exact ⟨hx0,hx1,hvl⟩
   ·exact h.keys p hp
  ·exact (((Upd.refl [] w).drew.trans hu).up [bl]).trans hu3
 have HF:=Lib.hid fin
 clear fin h hv
 simp only [Option.map_none,Option.getD_none,Option.isSome_none] at hl
 have q0d:w.drew.cell? ⟨gl,0,none⟩=some (.map (some bl)):=q0
 go_enter Tryz.func277,Tryz.ntmps277
 repeat' (first|go_values|go_skip|go_guarded|go_step|go_upon|(simp only [];go_at_K))
 clear hl d1 d2 d3 q0 q1 hx0 hx1 hwf
 go_region_with (first
  | (go_at_call 58;(with_reducible refine C.mono ?_);rintro e w2 ⟨A,n,c,rfl,ho,hu⟩;have q2:=hu.cell q0d (by simp);obtain ⟨w3,hrun,HK⟩:=HF.out A n c w2 ho hu)
  | (refine step_mapU rfl (.tmp 39) (.tmp 40) (.tmp 42) 220 rfl (.map (some bl)) (.int .i64 x) (.slice A n c) w3 rfl rfl rfl hrun ?_))
 all_goals (repeat' ((fail_if_success (with_reducible refine stop_append rfl ?_));first | go_values | go_skip | go_guarded | go_step | go_upon | (simp only [];go_at_K)))
 all_goals go_ret
 all_goals exact ⟨A,n,c,rfl,HK⟩
end Go.Proofs.YtijhlbeipglieaaGreat
namespace Agio
open Go
section
variable {α:Type}
def topG (L:AL α):Int:=L.foldl (fun m p=>max m (p.1 + 1)) 0
theorem topG_aux:∀(L:AL α) (m q:Int),m≤q→(∀p∈L,p.1 + 1≤q)→(q=m∨∃p∈L,p.1 + 1=q)→L.foldl (fun m p=>max m (p.1 + 1)) m=q
 | [],m,q,_,_,h=>by
  rcases h with h | ⟨p,hp,_⟩
  ·exact h.symm
  ·cases hp
 | a :: L,m,q,hm,hb,h=>by
  rw [List.foldl_cons]
  have ha:=hb a (by simp)
  refine topG_aux L _ q (by omega) (fun p hp=>hb p (List.mem_cons_of_mem _ hp)) ?_
  rcases h with h | ⟨p,hp,h⟩
  ·exact .inl (by omega)
  ·rcases List.mem_cons.1 hp with rfl | hp
   ·exact .inl (by omega)
   ·exact .inr ⟨p,hp,h⟩
end
end Agio
namespace Go.Proofs.YtijhlbeipglieaaGreat
open Go.RowKit Agio Go.Maps
theorem learnTop (w:World) (gl bl:Nat) (L:AL Bsl) (t:Nat) (h:LrnS w gl bl L t) :
  Calls Tryz.prog 100 #[.pointer (some ⟨gl,0,none⟩)] w fun e w'=>e= .returned (.int .i64 (topG L))∧Upd [] [] w w':=by
 obtain ⟨⟨q0,q1⟩,-⟩:=h.blk.c2
 obtain ⟨w0,hrun,hr0,hu0,hs0⟩:=h.map.range (t:=220) Tryz.underlying3 Tryz.underlying220
 have hk:=h.keys
 have hbl:=h.map.lt
 have hfin:∀q:Int,0≤q→(∀x,(lookG x L).isSome=true→x + 1≤q)→(q=0∨∃p∈L,p.1 + 1=q)→topG L=q:=fun q h0 h1 h2=>by
  refine topG_aux L 0 q h0 (fun p hp=>h1 p.1 ?_) h2
  cases hq:lookG p.1 L with
  | some _=>rfl
  | none=>exact absurd rfl (lookG_none.1 hq p hp)
 have HFIN:=Lib.hid hfin
 have HK:=Lib.hid hk
 clear hfin hk h
 obtain ⟨r,hr⟩:∃r,w.heap.size=r:=⟨_,rfl⟩
 have HR:=Lib.hid hr
 rw [hr] at hrun hr0 hs0 hbl
 clear hr
 obtain ⟨R,hR⟩:∃R,topG L=R:=⟨_,rfl⟩
 rw [hR] at HFIN ⊢
 clear hR
 go_enter Tryz.func100,Tryz.ntmps100
 repeat' (first|go_values|go_skip|go_guarded|go_step|go_upon|(simp only [];go_at_K))
 go_loopw [3] (fun v3 wr=>∃(q:Int) (left:Int→Bool) (cnt:Nat),v3= .int .i64 q∧0≤q∧q≤4096∧RngI Tryz.prog 3 wr bl r (mapG Bsl.val L) left cnt∧
   (∀x,(lookG x L).isSome=true→left x=true∨x + 1≤q)∧(q=0∨∃p∈L,p.1 + 1=q)∧Upd [] [] w wr) (fun _ wr=>wr.rangeLeft bl r)
 case atStart=>
  refine ⟨0,_,_,rfl,by omega,by omega,hr0,fun x hx=>.inl ?_,.inl rfl,hu0⟩
  show (lookK x _).isSome=true
  rw [lookK_G,lookG_map];simpa using hx
 case round=>
  obtain ⟨q,left,cnt,rfl,hq0,hq1,hrg,hA,hB,hU⟩:=hrel
  have HA:=Lib.hid hA
  have HB:=Lib.hid hB
  clear hA hB hr0
  rcases hrg.next Tryz.underlying3 0 with ⟨h0,hn,hnx⟩ | ⟨x,v,w1,cnt',hlx,hlk,hnx,hrg1,hlt,hu1,hs1,hen⟩
  ·have HN:=Lib.hid hn
   clear hn
   repeat' (first|go_values|go_skip|go_guarded|go_step|go_upon|(simp only [];go_at_K))
   go_ret
   have e1:=HFIN.out q hq0 (fun x hx=>by
    rcases HA.out x hx with h | h
    ·rw [HN.out] at h;cases h
    ·exact h) HB.out
   exact ⟨by rw [e1];rfl,hU⟩
  ·have hsome:(lookG x L).isSome=true:=by
    rw [lookK_G,lookG_map] at hlk
    cases hq:lookG x L with
    | some _=>rfl
    | none=>rw [hq] at hlk;cases hlk
   obtain ⟨y,hy⟩:=Option.isSome_iff_exists.1 hsome
   have hm:=lookG_some hy
   have hk0:=(HK.out _ hm).1
   have hk1:=(HK.out _ hm).2.1
   simp only at hk0 hk1
   have hxw:IntKind.i64.wrap (x + 1)=x + 1:=by rw [IntKind.wrap_i64];omega
   have U1:Upd [] [] w w1:=hU.own (by rw [HR.out];exact Nat.le_refl _) hu1
   have hle:=hrg.left_eq
   have hle1:=hrg1.left_eq
   have HM:=Lib.hid hm
   clear hsome hy hm hlk hu1 hU
   repeat' (first|go_values|go_skip|go_guarded|go_step|go_upon|(simp only [];go_at_K))
   refine ⟨⟨if q < x + 1 then x + 1 else q,_,cnt',rfl,by split <;> omega,by split <;> omega,hrg1,fun z hz=>?_,?_,U1⟩,by rw [hle,hle1];exact hlt⟩
   ·by_cases hzx:z=x
    ·subst hzx;right;split <;> omega
    ·rcases HA.out z hz with h | h
     ·left;simp [h,hzx]
     ·right;split <;> omega
   ·split
    ·exact .inr ⟨_,HM.out,rfl⟩
    ·exact HB.out
end Go.Proofs.YtijhlbeipglieaaGreat
