/- Layer 24: agiolaw24's begun and play. -/
import Derived.Test.YtijhlbeipglieaaGreatPkWrldJ
set_option linter.all false
set_option maxRecDepth 100000
set_option maxHeartbeats 4000000
namespace Go.Proofs.YtijhlbeipglieaaGreat
open Go.RowKit Agio Go.Maps
section
variable {w w':World} {V:WV}
structure BytV (w:World) (V:WV) (x:Bsl):Prop where
 byt:BytS w x
 far:∀k∈ablk x.A,k∉V.fp
theorem BytV.turn {V':WV} {x:Bsl} (h:BytV w V x) (hu:Upd V.fp V'.fp w w') (hl:∀k∈ablk x.A,k < w.heap.size):BytV w' V' x:=
 ⟨h.byt.upd hu h.far,fun k hk=>hu.notin (h.far k hk) (hl k hk)⟩
theorem BytS.lt {x:Bsl} (h:BytS w x):∀k∈ablk x.A,k < w.heap.size:=fun k hk=>tag_lt (h.tag k hk)
end
def cntW (b:Nat):Nat:=3 + b % 5
theorem newOkW (b:Nat):newOk ((0:Nat):Int) ((cntW b:Nat):Int) ((2:Nat):Int)=true:=by
 have h:3≤cntW b∧cntW b≤7:=by unfold cntW;omega
 simp only [newOk,Bool.and_eq_true,decide_eq_true_eq];omega
theorem worldBegun (w:World) (b:Nat) (_hb:b < 256):Calls Tryz.prog 39 #[.int .u8 (b:Int)] w fun e w'=>∃V:WV,e= .returned (.tuple #[V.ptr,.int .i64 (cntW b:Int)])∧WS w' V∧V.pl=Wd.new (cntW b) 2∧(∀k∈V.fp,w.heap.size≤k)∧Upd [] V.fp w w':=by
 have C:=worldNew w (cntW b) 2 (newOkW b)
 rw [show ((2:Nat):Int)=2 from rfl] at C
 have hr:((b:Int)).tmod 5=((b % 5:Nat):Int):=rfl
 have hw:IntKind.u8.wrap ((b % 5:Nat):Int)=((b % 5:Nat):Int):=by rw [IntKind.wrap_u8];omega
 have hw2:IntKind.i64.wrap ((b % 5:Nat):Int)=((b % 5:Nat):Int):=by rw [IntKind.wrap_i64];omega
 have e:(3:Int) + ((b % 5:Nat):Int)=((cntW b:Nat):Int):=by unfold cntW;omega
 obtain ⟨r,hr2⟩:∃r:Nat,b % 5=r:=⟨_,rfl⟩
 rw [hr2] at hr hw hw2 e
 have hc:cntW b≤7:=by unfold cntW;omega
 have hw3:IntKind.i64.wrap (3 + (r:Int))=((cntW b:Nat):Int):=by rw [e,IntKind.wrap_i64];omega
 clear hr2 e
 go_enter Tryz.func39,Tryz.ntmps39
 repeat' (first|go_values|go_skip|go_guarded|go_step|go_upon|(simp only [];go_at_K))
 ((with_reducible refine C.mono ?_);rintro e w1 ⟨V,rfl,hV⟩)
 rw [WV.ptr]
 repeat' (first|go_values|go_skip|go_guarded|go_step|go_upon|(simp only [];go_at_K))
 go_ret2
 exact ⟨V,rfl,hV⟩
end Go.Proofs.YtijhlbeipglieaaGreat
