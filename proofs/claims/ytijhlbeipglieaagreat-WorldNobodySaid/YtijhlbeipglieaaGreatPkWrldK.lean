/- Layer 24: a world that is nil; agiolaw24.WorldNobody. -/
import Derived.Test.YtijhlbeipglieaaGreatPkWrldJ
set_option linter.all false
set_option maxRecDepth 100000
set_option maxHeartbeats 4000000
namespace Go.Proofs.YtijhlbeipglieaaGreat
open Go.RowKit Agio Go.Maps
theorem worldDo_nil (w:World) (x:Ev):Calls Tryz.prog 44 #[.pointer none,x.val] w fun e w'=>e= .returned (.tuple #[.int .i64 0,.int .i64 1])∧Upd [] [] w w':=by
 obtain ⟨W,H,eW,hH,hBx,U0⟩:=boxes1 w 85 #[.int .i64 x.k,.int .i64 x.s,.int .i64 x.at_,.int .i64 x.n,.slice x.A x.l x.c]
 have U0':=U0.gives (b':=[]) (by simp)
 rw [Ev.val_eq]
 clear hBx
 go_enter Tryz.func44,Tryz.ntmps44
 repeat' (first|go_values|go_skip|go_guarded|go_step|go_upon|(simp only [];go_at_K))
 go_ret2
 exact ⟨rfl,U0'⟩
theorem worldRound_nil (w:World):Calls Tryz.prog 43 #[.pointer none] w fun e w'=>e= .returned (.int .i64 0)∧w=w':=by
 go_enter Tryz.func43,Tryz.ntmps43
 repeat' (first|go_values|go_skip|go_guarded|go_step|go_upon|(simp only [];go_at_K))
 go_ret
 exact ⟨rfl,rfl⟩
theorem worldNobody_any (w:World) (x:Ev) (hx:Ev.Rds w x) (s:Int) (_hs:(Lit.int .i64 s).wf=true):Calls Tryz.prog 13 #[x.val,.int .i64 s] w fun e w'=>e= .returned (.bool true)∧Upd [] [] w w':=by
 obtain ⟨W,H,eW,hH,hBx,U0⟩:=boxes1 w 85 #[.int .i64 x.k,.int .i64 x.s,.int .i64 x.at_,.int .i64 x.n,.slice x.A x.l x.c]
 have U0':=U0.gives (b':=[]) (by simp)
 have C1:=worldAwake W
 have hA:∀w i,AtC w (.pointer none) i none:=fun w i=>worldAt_nil w i
 have CD:=fun w=>@worldDecided ⟨[]⟩ w _ _ none (hA w s) (fun M h=>by cases h) x.at_ hx.at_
 have CF:=fun w=>@worldFrontier ⟨[]⟩ w _ _ none (hA w s) (fun M h=>by cases h)
 have CT:=fun w=>@worldTop ⟨[]⟩ w _ _ none (hA w s) (fun M h=>by cases h)
 have CW:=fun w=>@worldDown ⟨[]⟩ w _ _ none (hA w s) (fun M h=>by cases h)
 have CO:=fun w=>worldDone_none w _ s (hA w s)
 simp only [Option.bind_none,Option.isSome_none,Option.map_none,Option.getD_none] at CD CF CT CW
 have HNew:=fun w=>(worldNew w 3 1 (by decide))
 have hmax:∃m:Int,max s 0=m∧0≤m:=⟨_,rfl,by omega⟩
 obtain ⟨m,hm,hm0⟩:=hmax
 rw [Ev.val_eq]
 go_enter Tryz.func13,Tryz.ntmps13
 repeat' (first|go_values|go_skip|go_guarded|go_step|go_upon|(simp only [];go_at_K))
 ((with_reducible refine C1.mono ?_);rintro e w1 ⟨rfl,u1⟩)
 have hB1:=hBx.upd u1 (by simp)
 obtain ⟨⟨b0,b1,b2,b3,b4⟩,-⟩:=hB1.c5
 clear C1 hBx
 repeat' (first|go_values|go_skip|go_guarded|go_step|go_upon|(simp only [];go_at_K))
 have C2:=worldDo_nil w1 x
 rw [Ev.val_eq] at C2
 ((with_reducible refine C2.mono ?_);rintro e w2 ⟨rfl,u2⟩)
 have hB2:=hB1.upd u2 (by simp)
 clear b0 b1 b2 b3 b4 C2 hB1
 obtain ⟨⟨b0,b1,b2,b3,b4⟩,-⟩:=hB2.c5
 repeat' (first|go_values|go_skip|go_guarded|go_step|go_upon|(simp only [];go_at_K))
 ((with_reducible refine (CD w2).mono ?_);rintro e w3 ⟨A3,n3,c3,rfl,-,u3⟩)
 have u3':=u3.gives (b':=[]) (by simp)
 clear b0 b1 b2 b3 b4 hB2 CD u3
 repeat' (first|go_values|go_skip|go_guarded|go_step|go_upon|(simp only [];go_at_K))
 have C4:=HNew w3
 rw [show ((3:Nat):Int)=3 from rfl,show ((1:Nat):Int)=1 from rfl] at C4
 ((with_reducible refine C4.mono ?_);rintro e w4 ⟨V,rfl,hV,hp,-,u4⟩)
 have u4':=u4.gives (b':=[]) (by simp)
 have hlen:V.ss.length=3:=by have:=congrArg (fun p:Wd=>p.ss.length) hp;simpa [WV.pl,Wd.new] using this
 clear C4 u4 HNew hp
 rw [WV.ptr]
 repeat' (first|go_values|go_skip|go_guarded|go_step|go_upon|(simp only [];go_at_K))
 obtain ⟨j,hj⟩:∃j,3 + m % 5=j:=⟨_,rfl⟩
 have hnone:V.at_ j=none:=by unfold WV.at_;rw [if_pos (by omega)];exact List.getElem?_eq_none (by omega)
 have hU:Upd [] [] w w4:=(((U0'.trans u1).trans u2).trans u3').trans u4'
 rw [hj]
 clear hj hm hm0 hlen u1 u2 u3' u4' U0'
 ((with_reducible refine (worldRound_nil w4).mono ?_);rintro e w5 ⟨rfl,rfl⟩)
 repeat' (first|go_values|go_skip|go_guarded|go_step|go_upon|(simp only [];go_at_K))
 ((with_reducible refine (CF w4).mono ?_);rintro e w5 ⟨rfl,rfl⟩)
 repeat' (first|go_values|go_skip|go_guarded|go_step|go_upon|(simp only [];go_at_K))
 ((with_reducible refine (CT w4).mono ?_);rintro e w5 ⟨rfl,u5⟩)
 repeat' (first|go_values|go_skip|go_guarded|go_step|go_upon|(simp only [];go_at_K))
 ((with_reducible refine (CW w5).mono ?_);rintro e w6 ⟨rfl,rfl⟩)
 repeat' (first|go_values|go_skip|go_guarded|go_step|go_upon|(simp only [];go_at_K))
 ((with_reducible refine (CO w5).mono ?_);rintro e w6 ⟨rfl,rfl⟩)
 repeat' (first|go_values|go_skip|go_guarded|go_step|go_upon|(simp only [];go_at_K))
 ((with_reducible refine (worldPackets_nil w5).mono ?_);rintro e w6 ⟨rfl,rfl⟩)
 have hV5:=hV.upd0 u5
 have hA5:AtC w5 V.ptr j none:=by have:=worldAt w5 V hV5 j;rw [hnone] at this;exact this
 have D1:=@worldDown ⟨[]⟩ w5 _ _ none hA5 (fun M h=>by cases h)
 have D2:=@worldTop ⟨[]⟩ w5 _ _ none hA5 (fun M h=>by cases h)
 simp only [Option.map_none,Option.getD_none] at D1 D2
 rw [WV.ptr] at D1 D2
 repeat' (first|go_values|go_skip|go_guarded|go_step|go_upon|(simp only [];go_at_K))
 ((with_reducible refine D1.mono ?_);rintro e w6 ⟨rfl,rfl⟩)
 repeat' (first|go_values|go_skip|go_guarded|go_step|go_upon|(simp only [];go_at_K))
 ((with_reducible refine D2.mono ?_);rintro e w6 ⟨rfl,u6⟩)
 have hV6:=hV5.upd0 u6
 have hA6:AtC w6 V.ptr j none:=by have:=worldAt w6 V hV6 j;rw [hnone] at this;exact this
 have D3:=worldDone_none w6 _ j hA6
 rw [WV.ptr] at D3
 repeat' (first|go_values|go_skip|go_guarded|go_step|go_upon|(simp only [];go_at_K))
 ((with_reducible refine D3.mono ?_);rintro e w7 ⟨rfl,rfl⟩)
 repeat' (first|go_values|go_skip|go_guarded|go_step|go_upon|(simp only [];go_at_K))
 go_ret
 exact ⟨rfl,(hU.trans u5).trans u6⟩
end Go.Proofs.YtijhlbeipglieaaGreat
