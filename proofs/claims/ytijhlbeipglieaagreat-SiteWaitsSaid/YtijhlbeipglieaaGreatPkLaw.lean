/- Layer 23: State. -/
import Derived.Test.YtijhlbeipglieaaGreatPkProp
set_option linter.all false
set_option maxRecDepth 100000
set_option maxHeartbeats 2000000
namespace Go.Proofs.YtijhlbeipglieaaGreat
open Go.RowKit Agio Go.Maps
variable [Ban]
theorem siteState (w:World) (M:SiteV) (h:SiteS w M) (x:Int) (hx:(Lit.int .i64 x).wf=true) :
  Calls Tryz.prog 19 #[M.ptr,.int .i64 x] w fun e w'=>∃A n c,e= .returned ({M.sta x with A:=A,n:=n,c:=c} :Sta).val∧OwnB 5 w' A n c (M.sta x).b∧Upd [] (ablk A) w w':=by
 obtain ⟨hb,-,hbl⟩:=h.sta_in x
 have hlk:=fun (wx:World) (b:List Nat) (u:Upd [] b w wx)=>(h.upd0 u).look hx
 have q5:∀(wx:World) (b:List Nat) (u:Upd [] b w wx),wx.cell? ⟨M.gs,5,none⟩=some (.map (some M.bs)):=fun wx b u=>(h.upd0 u).blk.cell 5
 generalize M.sta x=y at *
 obtain ⟨W,H,G,eW,hH,hG,hB1,hB2,U0⟩:=boxes2 w 37 37 #[.int .i64 0,.int .i64 0,.bool false,.int .i64 0,.int .i64 0,.slice none 0 0] #[.int .i64 y.p.r,.int .i64 y.p.s,.bool y.so,.int .i64 y.at_.r,.int .i64 y.at_.s,.slice y.A y.n y.c]
 have l1:=hlk _ _ ((Upd.refl [] w).alloc (.cells #[.int .i64 0,.int .i64 0,.bool false,.int .i64 0,.int .i64 0,.slice none 0 0] 37))
 have q51:=q5 _ _ ((Upd.refl [] w).alloc (.cells #[.int .i64 0,.int .i64 0,.bool false,.int .i64 0,.int .i64 0,.slice none 0 0] 37))
 have C:=bytesClone W y.A y.n y.c y.b (RdB.upd hb.rd U0 (by simp)) (by omega)
 obtain ⟨⟨a0,a1,a2,a3,a4,a5⟩,f0,f1,f2,f3,f4,f5⟩:=hB2.c6
 simp only [Sta.val] at l1 ⊢
 rw [SiteV.ptr]
 clear hlk q5 h
 go_enter Tryz.func19,Tryz.ntmps19
 repeat' (first|go_values|go_skip|go_guarded|go_step|go_upon|(simp only [];go_at_K))
 ((with_reducible refine C.mono ?_);rintro e w1 ⟨A,n,c,rfl,ho,hu⟩)
 have K1:=hB1.upd hu (by simp)
 have K2:=hB2.upd hu (by simp)
 have hnew:=(Upd.refl [] W).new hu
 have hl1:=hB1.lt
 have hl2:=hB2.lt
 clear C a0 a1 a2 a3 a4 a5 f0 f1 f2 f3 f4 f5 hB1 hB2 l1 q51
 have u2:Upd [G] [G] w1 (w1.setCell ⟨G,5,none⟩ (.slice A n c)):=(Upd.refl [G] w1).setCell (p:=⟨G,5,none⟩) (.inl (by simp)) _
 have hfz:w1.frozen? ⟨G,5,none⟩=false:=K2.frozen 5
 have K2b:=K2.set_ 5 (.slice A n c)
 have K1b:=K1.upd u2 (by simp only [List.mem_singleton];omega)
 obtain ⟨⟨b0,b1,b2,b3,b4,b5⟩,-⟩:=K2.c6
 obtain ⟨W3,hW3⟩:∃W3,w1.setCell ⟨G,5,none⟩ (.slice A n c)=W3:=⟨_,rfl⟩
 have c5:W3.cell? ⟨G,5,none⟩=some (.slice A n c):=by rw [←hW3];exact K2b.cell 5
 have c0:W3.cell? ⟨G,0,none⟩=some (.int .i64 y.p.r):=by rw [←hW3];exact K2b.cell 0
 have c1:W3.cell? ⟨G,1,none⟩=some (.int .i64 y.p.s):=by rw [←hW3];exact K2b.cell 1
 have c2:W3.cell? ⟨G,2,none⟩=some (.bool y.so):=by rw [←hW3];exact K2b.cell 2
 have c3:W3.cell? ⟨G,3,none⟩=some (.int .i64 y.at_.r):=by rw [←hW3];exact K2b.cell 3
 have c4:W3.cell? ⟨G,4,none⟩=some (.int .i64 y.at_.s):=by rw [←hW3];exact K2b.cell 4
 rw [hW3] at u2 K1b
 obtain ⟨⟨d0,d1,d2,d3,d4,d5⟩,g0,g1,g2,g3,g4,g5⟩:=K1b.c6
 have K5:=blk_set6 K1b (.int .i64 y.p.r) (.int .i64 y.p.s) (.bool y.so) (.int .i64 y.at_.r) (.int .i64 y.at_.s) (.slice A n c)
 have u5:=upd_set6 W3 H (.int .i64 y.p.r) (.int .i64 y.p.s) (.bool y.so) (.int .i64 y.at_.r) (.int .i64 y.at_.s) (.slice A n c)
 have ho5:=(ho.upd u2 (fun k hk=>by have:=hnew k hk;simp only [List.mem_singleton];omega)).upd u5 (fun k hk=>by have:=hnew k hk;simp only [List.mem_singleton];omega)
 have U5:=((((U0.gives (b':=[]) (by simp)).trans hu).own (g:=G) (by omega) u2).own (g:=H) (by omega) u5)
 clear K1 K2 K1b ho u2 u5 hu U0 K2b hb
 repeat' (first|go_values|go_skip|go_guarded|go_step|go_upon|(simp only [];go_at_K))
 generalize hW:World.setCell _ _ _=W4
 rw [set6,hW] at K5 ho5 U5
 obtain ⟨⟨z0,z1,z2,z3,z4,z5⟩,-⟩:=K5.c6
 exact bodyPost_ret (v:=.agg #[.int .i64 y.p.r,.int .i64 y.p.s,.bool y.so,.int .i64 y.at_.r,.int .i64 y.at_.s,.slice A n c]) (by simp [results,Tryz.results19,go_sem,z0,z1,z2,z3,z4,z5]) rfl ⟨A,n,c,rfl,ho5,U5⟩
end Go.Proofs.YtijhlbeipglieaaGreat
