/- For SitePlays. -/
import Derived.Test.YtijhlbeipglieaaGreatPkRefC
set_option linter.all false
set_option maxRecDepth 100000
set_option maxHeartbeats 16000000
namespace Go.Proofs.YtijhlbeipglieaaGreat
open Go.RowKit aA Go.Proofs.Tryz List
theorem Jk(x:Rv)(w:World)(hr:aD w x.A x.n x.b) :
  Calls prog 263 #[x.val] w fun e w'=>(∃v,e=.returned (.bool v)∧(v=true ↔ x.rc.May))∧aa [] [] w w':=by
 obtain⟨k,s,r,t,A,n,c,b⟩:=x
 have hn:=hr.len
 simp only at hn
 have hU:=fun o o'=>((aa.refl [] w).alloc o).alloc o'
 have hM:(⟨k,s,r,t,A,n,c,b⟩:Rv).rc.May ↔ (k=1∧(n:Int)=0∨k=2)∧(0≤s∧s≤4095)∧(0≤r∧r≤1099511627776)∧(0≤t∧t≤6)∧(n:Int)≤2048:=by
  constructor
  ·rintro⟨h1,h2,h3,h4,h5⟩
   simp only[Rv.rc]at h1 h2 h3 h4 h5
   omega
  ·rintro⟨h1,h2,h3,h4,h5⟩
   exact⟨by simp only[Rv.rc];omega,h2,h3,h4,by simp only[Rv.rc];omega⟩
 have HM:=hdn hM
 clear hM hr hn
 rw[Rv.aH]
 go_enter func263,ntmps263
 repeat' first|go_skip|go_guarded|go_step
 all_goals go_ret
 all_goals refine⟨⟨_,rfl,?_⟩,hU _ _⟩
 all_goals refine Iff.trans ?_ HM.out.symm
 all_goals clear HM hU
 all_goals first
  |(simp only[Bool.false_eq_true,false_iff];omega)
  |(simp only[true_iff];omega)
  |(simp only[beq_iff_eq];omega)
  |omega
theorem Uu:(prog.info? 246).map (fun i=>(i.zero,i.size,i.bytes))=some (some (.agg #[.int .i64 0,.int .i64 0,.int .i64 0,.int .i64 0,.slice none 0 0]),5,56):=by kernel_rfl
theorem Lp(x:Rv)(w:World)(hr:aD w x.A x.n x.b)(hm:x.rc.May) :
  Calls prog 257 #[x.val] w fun e w'=>∃A' k' c',e=.returned (.tuple #[.slice A' k' c',.int .i64 0])∧aT 5 w' A' k' c' x.rc.bytes∧aa [] (ah A') w w':=by
 have C:=Jk x (w.alloc (.cells #[.int .i64 x.k,.int .i64 x.s,.int .i64 x.r,.int .i64 x.t,.slice x.A x.n x.c] 246)) (hr.alloc _)
 rw[Rv.aH]at C ⊢
 obtain⟨k,s,r,t,A,n,c,b⟩:=x
 have h1:=hm.kind;have h2:=hm.slot;have h3:=hm.round;have h4:=hm.site;have h5:=hm.val
 simp only[Rv.rc]at h1 h2 h3 h4 h5 C hr
 obtain⟨K,rfl⟩:=Int.eq_ofNat_of_zero_le (show 0≤k by omega)
 obtain⟨S,rfl⟩:=Int.eq_ofNat_of_zero_le (show 0≤s by omega)
 obtain⟨R,rfl⟩:=Int.eq_ofNat_of_zero_le (show 0≤r by omega)
 obtain⟨T,rfl⟩:=Int.eq_ofNat_of_zero_le (show 0≤t by omega)
 have hK:K≤2:=by omega
 have hS:S≤4095:=by omega
 have hR:R≤1099511627776:=by omega
 have hT:T≤6:=by omega
 have lK:=jE (n:=K) (by unfold dZ;omega)
 have lS:=jE (n:=S) (by unfold dZ;omega)
 have lR:=jE (n:=R) (by unfold dZ;omega)
 have lT:=jE (n:=T) (by unfold dZ;omega)
 have lB:=jE (n:=b.length) (by unfold dZ;omega)
 have HB:Hid (dL K++dL S++dL R++dL T++(dL b.length++b)=(⟨(K:Int),(S:Int),(R:Int),(T:Int),b⟩:Rc).bytes):=hdn (by simp[Rc.bytes,Rc.ns,jr])
 have hX:=ak.new w 246 #[.int .i64 K,.int .i64 S,.int .i64 R,.int .i64 T,.slice A n c]
 have hrb:=hr.alloc (.cells #[.int .i64 K,.int .i64 S,.int .i64 R,.int .i64 T,.slice A n c] 246)
 have U0:=(aa.refl [] w).alloc (.cells #[.int .i64 K,.int .i64 S,.int .i64 R,.int .i64 T,.slice A n c] 246)
 go_enter func257,ntmps257
 repeat' go_step
 refine C.mono ?_;rintro e w0 ⟨⟨v,rfl,hv⟩,V0⟩
 obtain rfl:v=true:=hv.2 hm
 clear C hv hm h1 h2 h3 h4
 obtain⟨gX,hgX⟩:∃g,w.heap.size=g:=⟨_,rfl⟩
 rw[hgX]at hX ⊢
 generalize w.alloc (.cells #[.int .i64 K,.int .i64 S,.int .i64 R,.int .i64 T,.slice A n c] 246)=wb at *
 clear hr
 obtain⟨⟨q0,q1,q2,q3,q4⟩,-⟩:=(hX.upd V0).c5
 repeat' first|go_step|simp only[];go_at_K
 refine(nX _ _ (by omega) (by unfold dZ;omega)).mono ?_;rintro e w1 ⟨A1,k1,c1,rfl,ho1,hu1⟩
 simp only[Int.toNat_natCast]at ho1
 have V1:=V0.trans hu1
 clear V0 hu1 q0 q1 q2 q3 q4
 obtain⟨⟨q0,q1,q2,q3,q4⟩,-⟩:=(hX.upd V1).c5
 repeat' first|go_step|simp only[];go_at_K
 refine(nX _ _ (by omega) (by unfold dZ;omega)).mono ?_;rintro e v2 ⟨B2,j2,d2,rfl,hp2,hv2⟩
 simp only[Int.toNat_natCast]at hp2
 have Hf:=ho1.upd hv2
 have V1':aa [] (ah A1) wb v2:=V1.trans (hv2.up _)
 clear ho1 V1 hv2 q0 q1 q2 q3 q4
 refine bN ?_
 refine eD rfl _ _ 28 rfl 5 underlying28 gp Hf rfl hp2.rd rfl (by(try simp only[length_append]);omega) ?_
 intro A2 k2 c2 w2 ho2 hu2
 have V2:=V1'.trans hu2
 clear Hf V1' hu2 hp2
 obtain⟨⟨q0,q1,q2,q3,q4⟩,-⟩:=(hX.upd V2).c5
 repeat' go_step
 refine(nX _ _ (by omega) (by unfold dZ;omega)).mono ?_;rintro e v3 ⟨B3,j3,d3,rfl,hp3,hv3⟩
 simp only[Int.toNat_natCast]at hp3
 have Bi:=ho2.upd hv3
 have V2':aa [] (ah A2) wb v3:=V2.trans (hv3.up _)
 clear ho2 V2 hv3 q0 q1 q2 q3 q4
 refine bN ?_
 refine eD rfl _ _ 28 rfl 5 underlying28 gp Bi rfl hp3.rd rfl (by(try simp only[length_append]);omega) ?_
 intro A3 k3 c3 w3 ho3 hu3
 have V3:=V2'.trans hu3
 clear Bi V2' hu3 hp3
 obtain⟨⟨q0,q1,q2,q3,q4⟩,-⟩:=(hX.upd V3).c5
 repeat' go_step
 refine(nX _ _ (by omega) (by unfold dZ;omega)).mono ?_;rintro e v4 ⟨B4,j4,d4,rfl,jY,hv4⟩
 simp only[Int.toNat_natCast]at jY
 have Bj:=ho3.upd hv4
 have V3':aa [] (ah A3) wb v4:=V3.trans (hv4.up _)
 clear ho3 V3 hv4 q0 q1 q2 q3 q4
 refine bN ?_
 refine eD rfl _ _ 28 rfl 5 underlying28 gp Bj rfl jY.rd rfl (by(try simp only[length_append]);omega) ?_
 intro A4 k4 c4 w4 bY bM
 have V4:=V3'.trans bM
 clear Bj V3' bM jY
 obtain⟨⟨q0,q1,q2,q3,q4⟩,-⟩:=(hX.upd V4).c5
 repeat' go_step
 refine(Uv _ A n c b (hrb.upd V4) (by omega)).mono ?_;rintro e v5 ⟨B5,j5,d5,rfl,sW,hv5⟩
 have ZW:=bY.upd hv5
 have V4':aa [] (ah A4) wb v5:=V4.trans (hv5.up _)
 clear bY V4 hv5 q0 q1 q2 q3 q4
 refine bN ?_
 refine eD rfl _ _ 28 rfl 5 underlying28 gp ZW rfl sW.rd rfl (by(try simp only[length_append]);omega) ?_
 intro A5 k5 c5 w5 dB bD
 have V5:=V4'.trans bD
 clear ZW V4' bD sW
 obtain⟨⟨q0,q1,q2,q3,q4⟩,-⟩:=(hX.upd V5).c5
 refine wk ?_
 go_ret2
 rw[HB.out]at dB
 exact⟨A5,k5,c5,rfl,dB,(U0.trans (V5.mono (by simp) (fun k hk=>.inl hk)))⟩
theorem MR(n:Nat)(hn:bI n)(w:World) :
  Calls prog 275 #[.int .u32 (n:Int)] w fun e w'=>∃A k c,e=.returned (.slice A k c)∧aT 5 w' A k c (four n)∧aa [] (ah A) w w':=by
 go_enter func275,ntmps275
 repeat' go_step
 go_loopw [0,3,4] (fun v0 v3 v4 wr=>∃(i:Nat)(A:Option Addr)(k c:Nat),i≤4∧v4=.int .i64 (i:Int)∧v0=.int .u32 ((n / 256^i:Nat):Int)∧v3=.slice A k c∧aT 5 wr A k c ((four n).take i)∧aa [] (ah A) w wr)
  (fun _ _ v4 _=>4-(intOf v4).toNat)
 case atStart=>exact⟨0,none,0,0,by omega,rfl,by simp,rfl,aT.nil _ _,aa.refl _ _⟩
 case round=>
  obtain⟨i,A,k,c,hi,rfl,rfl,rfl,ho,hu⟩:=hrel
  have hl:((four n).take i).length≤4:=by rw[length_take];omega
  have hm:n / 256^i≤n:=Nat.div_le_self _ _
  have HM:Hid (n / 256^i / 256=n / 256^(i+1)):=by unfold Hid;rw[Nat.div_div_eq_div_mul,Nat.pow_succ]
  by_cases hlt:i<4
  ·have HS:=hdn (Qw (n:=n) hlt)
   generalize n / 256^i=m at *
   repeat' (fail_if_success with_reducible refine Ag rfl ?_);go_step
   refine mG rfl _ _ 28 rfl 5 underlying28 gp ho rfl _ rfl _ rfl (m % 256) (by omega) (by omega) (by omega) ?_
   intro A' k' c' w1 ho1 hu1
   rw[show UInt8.ofNat (m % 256)=UInt8.ofNat m by apply UInt8.toNat_inj.1;simp,←HS.out]at ho1
   refine wk ?_
   refine⟨⟨i+1,A',k',c',by omega,rfl,?_,rfl,ho1,hu.trans hu1⟩,by simp[intOf];omega⟩
   have hd:(m:Int) / 256 % 4294967296=((m / 256:Nat):Int):=by unfold bI at hn;omega
   rw[hd,HM.out]
  ·obtain rfl:i=4:=by omega
   rw[Qv]at ho
   refine wk ?_
   go_ret
   exact⟨A,k,c,rfl,ho,hu⟩
theorem FQ(w:World)(A:Option Addr)(n c:Nat)(b:List UInt8)(hr:aD w A n b)(h4:4≤b.length)(hn:b.length≤140737488355328) :
  Calls prog 271 #[.slice A n c] w fun e w'=>e=.returned (.int .u32 ((bT b:Nat):Int))∧w=w':=by
 obtain rfl:=hr.len
 have H0:Hid (hi4 b 0=bT b):=rfl
 have H4:Hid (hi4 b 4=0):=rfl
 go_enter func271,ntmps271
 repeat' go_step
 go_loop [3,4] (fun v3 v4=>∃x:Int,-1≤x∧x≤3∧v4=.int .i64 x∧v3=.int .u32 ((hi4 b (x+1).toNat:Nat):Int)) (fun _ v4=>(intOf v4+1).toNat)
 case atStart=>exact⟨3,by omega,by omega,rfl,by rw[show((3:Int)+1).toNat=4 by omega,H4.out];rfl⟩
 case round=>
  obtain⟨x,hx0,hx1,rfl,rfl⟩:=hrel
  by_cases hx:0≤x
  ·obtain⟨i,rfl⟩:=Int.eq_ofNat_of_zero_le hx
   have hib:i<b.length:=by omega
   obtain⟨ad,u,rfl,hx,acM⟩:=Rd.at_ hr (k:=i) hib
   rw[iq b i hib]at hx
   obtain rfl:=Option.some.inj hx
   have HST:=hdn (TU (l:=b) (k:=i) (by omega) hib)
   have hU:=X8 b i
   have hcb:=b[i].toNat_lt
   rw[show((i:Int)+1).toNat=i+1 by omega]
   clear hx
   generalize b[i].toNat=cn at *
   refine wk ?_
   refine⟨⟨(i:Int)-1,by omega,by omega,rfl,?_⟩,by simp[intOf]<;>omega⟩
   rw[show((i:Int)-1+1).toNat=i by omega,TV HST.out hU]
  ·obtain rfl:x= -1:=by omega
   refine wk ?_
   go_ret
   exact⟨by rw[show((-1:Int)+1).toNat=0 from rfl,H0.out];rfl,rfl⟩
theorem QT(w:World)(A:Option Addr)(n c:Nat)(b:List UInt8)(hr:aD w A n b)(hb:b.length≤4096) :
  Calls prog 245 #[.slice A n c] w fun e w'=>∃A' k' c',e=.returned (.tuple #[.slice A' k' c',.int .i64 0])∧aT 5 w' A' k' c' (put b)∧aa [] (ah A') w w':=by
 obtain rfl:=hr.len
 have hU:bI b.length:=by unfold bI;omega
 have hS:=Bh (four b.length) b
 have HP:Hid (four b.length++four (more (more 0 (four b.length)) b)++b=put b):=rfl
 go_enter func245,ntmps245
 repeat' (fail_if_success with_reducible refine Ag rfl ?_);go_step
 refine(MR _ hU w).mono ?_
 rintro e w1 ⟨A1,k1,c1,rfl,ho1,hu1⟩
 have hr1:=hr.upd hu1
 repeat' (fail_if_success with_reducible refine Ag rfl ?_);first|go_step|simp only[];go_at_K
 refine(PO w1 A1 k1 c1 _ ho1.rd (by simp)).mono ?_
 rintro e w2 ⟨rfl,rfl⟩
 repeat' (fail_if_success with_reducible refine Ag rfl ?_);first|go_step|simp only[];go_at_K
 refine(Ee _ (qw bI.zero _) w1 A b.length c b hr1 (by omega)).mono ?_
 rintro e w2 ⟨rfl,rfl⟩
 have hS':bI (more (more 0 (four b.length)) b):=hS
 generalize more (more 0 (four b.length)) b=s at *
 repeat' (fail_if_success with_reducible refine Ag rfl ?_);first|go_step|simp only[];go_at_K
 refine(MR _ hS' w1).mono ?_
 rintro e w2 ⟨A2,k2,c2,rfl,ho2,hu2⟩
 have ho1:=ho1.upd hu2
 have hr2:=hr1.upd hu2
 refine bN ?_
 refine eD rfl _ _ 28 rfl 5 underlying28 gp ho1 rfl ho2.rd rfl (by simp) ?_
 intro A3 k3 c3 w3 ho3 hu3
 have U3:=(hu1.trans (hu2.up _)).trans hu3
 have hr3:=hr.upd U3
 repeat' (fail_if_success with_reducible refine Ag rfl ?_);go_step
 refine eD rfl _ _ 28 rfl 5 underlying28 gp ho3 rfl hr3 rfl (by simp;omega) ?_
 intro A4 k4 c4 w4 bY bM
 refine wk ?_
 go_ret2
 rw[HP.out]at bY
 exact⟨A4,k4,c4,rfl,bY,U3.trans bM⟩
def vQ(w:World)(b:List UInt8)(A:Option Addr)(e:Ending):Prop:=
 ∃A1 n1 c1 A2 n2 c2,e=.returned (.tuple #[.slice A1 n1 c1,.slice A2 n2 c2,.int .i64 (((fst b).2:Nat):Int)])∧
  aD w A1 n1 (if(fst b).2=0 then(b.drop 8).take (fst b).1 else[])∧aD w A2 n2 (if(fst b).2=0 then b.drop (8+(fst b).1) else[])∧
  n1≤c1∧c1≤maxLen∧n2≤c2∧c2≤maxLen∧(∀k,k∈ah A1++ah A2→k∈ah A)
theorem vQ.bad{w:World}{b:List UInt8}{A:Option Addr}{bad:Nat}(h:fst b=(0,bad))(h0:bad≠0):vQ w b A (.returned (.tuple #[.slice none 0 0,.slice none 0 0,.int .i64 (bad:Int)])):=by
 refine⟨none,0,0,none,0,0,by rw[h],?_,?_,by omega,by simp[maxLen],by omega,by simp[maxLen],by simp[ah]⟩<;>rw[h,if_neg h0]<;>exact aD.nil _ _
theorem vQ.ok{w:World}{b:List UInt8}{A:Option Addr}{c m:Nat}(h:fst b=(m,0))(hr:aD w A b.length b)(hc:b.length≤c)(hcm:c≤maxLen) :
  vQ w b A (.returned (.tuple #[.slice (if c=8 then A else A.map (fun x=>⟨x.block,x.off+8,none⟩)) m (c-8),.slice (if c=8+m then A else A.map (fun x=>x.add (8+m))) (b.length-(8+m)) (c-(8+m)),.int .i64 0])):=by
 obtain⟨h1,h2,_⟩:=wm h
 have hp:=hr.part hc 8 m (by omega)
 have hq:=hr.rest hc (8+m) (by omega)
 have e8:(fun x:Addr=>x.add 8)=(fun x=>⟨x.block,x.off+8,none⟩):=by funext x;simp[Addr.add]
 rw[e8]at hp
 refine⟨_,_,_,_,_,_,by rw[h];rfl,?_,?_,by omega,by omega,by omega,by omega,?_⟩
 ·rw[h,if_pos rfl];exact hp
 ·rw[h,if_pos rfl];exact hq
 ·intro k hk
  have q1:=L6 (c=8) A 8
  rw[e8]at q1
  rw[q1,L6]at hk
  simpa using hk
theorem Uw(w:World)(A:Option Addr)(n c:Nat)(b:List UInt8)(hr:aD w A n b)(hc:n≤c)(hcm:c≤maxLen)(hb:b.length≤140737488355328) :
  Calls prog 239 #[.slice A n c] w fun e w'=>vQ w b A e∧∃k,w'=w.drewN k:=by
 obtain rfl:=hr.len
 by_cases h8:b.length<8
 ·have H:Hid (fst b=(0,3)):=by unfold Hid fst;rw[if_pos h8]
  go_enter func239,ntmps239
  repeat' go_step
  go_ret3
  exact⟨vQ.bad H.out (by decide),0,rfl⟩
 have C:=FQ w A b.length c b hr (by omega) hb
 have hU:=xg b
 by_cases h5:4096<bT b
 ·have H:Hid (fst b=(0,5)):=by unfold Hid fst;rw[if_neg h8,if_pos h5]
  generalize bT b=m at *
  go_enter func239,ntmps239
  repeat' go_step
  refine C.mono ?_
  rintro e w1 ⟨rfl,rfl⟩
  repeat' first|go_step|simp only[];go_at_K
  go_ret3
  exact⟨vQ.bad H.out (by decide),0,rfl⟩
 by_cases h3:b.length-8<bT b
 ·have H:Hid (fst b=(0,3)):=by unfold Hid fst;rw[if_neg h8,if_neg h5,if_pos h3]
  generalize bT b=m at *
  go_enter func239,ntmps239
  repeat' go_step
  refine C.mono ?_
  rintro e w1 ⟨rfl,rfl⟩
  have hd:decide ((b.length:Int)-8<m)=true:=dTo
  repeat' first|go_step|simp only[];go_at_K
  go_ret3
  exact⟨vQ.bad H.out (by decide),0,rfl⟩
 have hdh:decide ((b.length:Int)-8<(bT b:Nat))=false:=dFo
 have hx1:(bT b:Int)+8≤(c:Int):=by omega
 have hx2:(b.length:Int)≤(c:Int):=by omega
 have hx3:(8:Int)≤(b.length:Int):=by omega
 have hx4:(4:Int)≤(b.length:Int):=by omega
 have hx5:(4:Int)≤(c:Int):=by omega
 have YS:(c:Int)≤9223372036854775807:=by unfold maxLen at hcm;omega
 have hp:aD w (if c=8 then A else A.map (fun x=>⟨x.block,x.off+8,none⟩)) (bT b) ((b.drop 8).take (bT b)):=by
  have:=hr.part hc 8 (bT b) (by omega)
  simpa[Addr.add]using this
 have hp2:=hr.rest hc (8+bT b) (by omega)
 have jY:=hr.pre 4 (by omega)
 have hq4:aD w (if c=4 then A else A.map (fun x=>⟨x.block,x.off+4,none⟩)) (b.length-4) (b.drop 4):=by simpa[Addr.add]using hr.rest hc 4 (by omega)
 have C4:=fun N=>FQ (w.drewN N) _ _ (c-4) _ (hq4.drewN N) (by simp;omega) (by simp;omega)
 have CS:=fun N=>PO (w.drewN N) _ _ c _ (jY.drewN N) (by simp;omega)
 have CM:=fun N=>Ee _ (qw bI.zero (b.take 4)) (w.drewN N) _ _ (c-8) _ (hp.drewN N) (by simp;omega)
 have HB:Hid (nH (b.take 4) ((b.drop 8).take (bT b))=more (more 0 (b.take 4)) ((b.drop 8).take (bT b))):=rfl
 have HF:Hid (fst b=if bT (b.drop 4)≠nH (b.take 4) ((b.drop 8).take (bT b)) then(0,4) else(bT b,0)):=by unfold Hid fst;rw[if_neg h8,if_neg h5,if_neg h3]
 generalize bT b=m at *
 have yE:Hid (8+m-8=m):=by unfold Hid;omega
 go_enter func239,ntmps239
 repeat' go_step
 refine C.mono ?_
 rintro e w1 ⟨rfl,rfl⟩
 repeat' first|go_step|simp only[];go_at_K
 rw[yE.out]
 go_quiet ((first|(go_at_call 271;with_reducible exact iU (C4 _))|(go_at_call 273;with_reducible exact iU (CS _))|(go_at_call 272;with_reducible exact iU (CM _))))
 generalize more (more 0 (b.take 4)) ((b.drop 8).take m)=x at *
 rw[HB.out]at HF
 generalize bT (b.drop 4)=y at *
 clear CS CM C4 C jY hq4
 by_cases hxy:y=x
 ·have H:Hid (fst b=(m,0)):=by have:=HF.out;rw[if_neg (by simpa using hxy)]at this;exact this
  have ht:((x:Int) != (y:Int))=false:=by rw[hxy];simp
  clear HF HB hxy
  repeat' go_step
  go_quiet (fail)
  refine wk ?_
  go_ret3
  exact⟨vQ.ok H.out hr hc hcm,by first|exact⟨_,rfl⟩|exact⟨_,World.drewN_drewN _ _ _⟩⟩
 ·have H:Hid (fst b=(0,4)):=by have:=HF.out;rw[if_pos hxy]at this;exact this
  have ht:((x:Int) != (y:Int))=true:=by simp;omega
  clear HF HB hxy
  repeat' go_step
  go_ret3
  exact⟨vQ.bad H.out (by decide),nq,rfl⟩
open Go.Maps
def OC(X:List Nat)(w w':World)(e:Ending)(o:Option Site)(s:Site):Prop:=∃v,e=.returned (.tuple #[v,.bool o.isSome])∧Came X w w' v (o.getD s)
theorem Jl(X:List Nat)(w:World)(r:ai)(s:Site)(h:Ref X w r s)(hX:∀k∈X,k<w.heap.size)(x:Rv)(hx:aD w x.A x.n x.b)(hm:x.rc.May)(T:aN)(hT:dU X w T.A T.n T.b)(hz:T.pl.same Sp.zero=false)(hy:T.pl.b.length≤2048∧T.pl.p.may 7=true∧T.pl.at_.may 7=true) :
  Calls prog 207 #[r.val,x.val,T.val] w fun e w'=>OC X w w' e (s.note T.pl x.rc) s:=by
 obtain⟨ii,hii,abx⟩:=fP
 obtain⟨W,H,eW,hH,hB,U0⟩:=az w 63 r.cells.toArray
 obtain⟨W1,J,nK,hJ,fT,U1⟩:=az W 246 #[.int .i64 x.k,.int .i64 x.s,.int .i64 x.r,.int .i64 x.t,.slice x.A x.n x.c]
 obtain⟨W2,K,fu,hK,rQ,U2⟩:=az W1 166 #[.int .i64 T.p.r,.int .i64 T.p.s,.bool T.so,.int .i64 T.at_.r,.int .i64 T.at_.s,.slice T.A T.n T.c]
 obtain⟨W3,G,ME,hG,hBG,U3⟩:=az W2 63 cz
 have hB3:=((hB.upd U1).upd U2).upd U3
 have hJ3:=(fT.upd U2).upd U3
 have hK3:=rQ.upd U3
 have hs0:=U0.size
 have hs1:=U1.size
 have hs2:=U2.size
 have hs3:=U3.size
 have afY:J≠H:=by have:=hB.lt;omega
 have ajb:K≠H:=by have:=hB.lt;omega
 have dY:G≠H:=by have:=hB.lt;omega
 have rP:aa [] [] w W3:=((U0.g0.trans U1.g0).trans U2.g0).trans U3.g0
 have hY:∀k∈[H,G],w.heap.size≤k:=ge2
 have hHw:∀k∈[H],w.heap.size≤k:=ge1
 have aR:∀k∈[G],w.heap.size≤k:=ge1
 have h3:=(h.more hY).grow rP
 have vZ:=(hT.more hY).grow rP
 have wI:∀W',aa [] [] W3 W'→∀k∈[H,G]++X,k<W'.heap.size:=fun W' u k hk=>by
  have h1:=hB3.lt
  have h3:=hBG.lt
  have hu:=u.size
  simp only[cons_append,nil_append,mem_cons]at hk
  rcases hk with rfl|rfl|hk
  ·omega
  ·omega
  ·have:=hX k hk;have:=rP.size;omega
 have C:=Lp x W3 (hx.upd rP) hm
 obtain⟨⟨j0,j1,j2,j3,j4⟩,-⟩:=hJ3.c5
 have HN:=hdn (Site.note.eq_def s T.pl x.rc)
 have hdl:=h.aJ.dk
 have Jf:=h.aJ.db
 have hrl:x.rc.bytes.length≤2100:=by
  have h1:=Jm x.rc hm
  rw[kE,length_append,fZ]at h1
  omega
 have hrm:s.room x.rc=decide (s.db.length+(put x.rc.bytes).length≤1048576):=by
  unfold Site.room
  rw[kE]
  simp[bn]
 have nP:=hdn hrm
 clear hrm
 obtain⟨F,hF⟩:=ex1 (s.note T.pl x.rc)
 rw[hF]at HN ⊢
 clear hF
 rw[Rv.aH]at C
 rw[ai.arr,Rv.aH,aN.val]
 go_enter func207,ntmps207
 repeat' go_step
 refine C.mono ?_;rintro e w4 ⟨A4,k4,c4,rfl,o4,u4⟩
 clear C j0 j1 j2 j3 j4
 have Mo:aa [] [] W3 w4:=u4.g0
 have hk4:=o4.len
 have C:=QT w4 A4 k4 c4 x.rc.bytes o4.rd (by omega)
 have HK4:=hdn hk4
 clear hk4
 repeat' first|go_step|simp only[];go_at_K
 refine C.mono ?_;rintro e w5 ⟨A5,k5,c5,rfl,o5,u5⟩
 clear C
 have FR:aa [] [] W3 w5:=Mo.trans u5.g0
 have hk5:=o5.len
 have hpl:=fZ x.rc.bytes
 have Jn:=hB3.upd FR
 have q4:w5.cell? ⟨H,4,none⟩=some (.slice r.D.A r.D.n r.D.c):=Jn.cell 4
 have q5:w5.cell? ⟨H,5,none⟩=some (.int .i64 (r.dn:Int)):=Jn.cell 5
 have h5:=h3.grow FR
 have hdU:r.D.n=s.db.length:=by rw[h5.mem.db.len,Jf]
 have C:=Lj w5 r.D r.dn h5.mem.db A5 k5 c5 (put x.rc.bytes) o5.rd (by omega)
 have HC:=hdn (show r.D.n+k5=s.db.length+(put x.rc.bytes).length by rw[hdU,hk5])
 unfold mO at C
 clear hk5 hpl
 by_cases aed:1048576<r.D.n+k5
 ·simp only[if_pos aed]at C
  have dQ:F=none:=by
   rw[HN.out,if_neg]
   rw[nP.out,decide_eq_true_eq]
   have:=HC.out
   omega
  subst dQ
  clear aed hdU
  repeat' first|go_step|simp only[];go_at_K
  refine C.mono ?_;rintro e w6 ⟨u6,rfl⟩
  clear C
  have QU:=FR.trans u6
  have zh:=hB3.upd QU
  have FT:=hBG.upd QU
  obtain⟨W7,M,wL,hM,fD,U7⟩:=az w6 55 #[.slice r.D.A r.D.n r.D.c,.int .i64 (r.dn:Int)]
  have oW:=zh.upd U7
  have xZ:=FT.upd U7
  have zi:aa [] [] W3 W7:=QU.trans U7.g0
  clear q4 q5
  repeat' (fail_if_success with_reducible refine ek (t:=63) rfl ?_);first|go_step|simp only[];go_at_K
  refine bF hii oW abx ?_
  refine bK ?_
  refine bL r.cells hii abx xZ ?_
  intro W8 aX u8
  refine wk ?_
  exact ug results207 hii aX abx ⟨_,rfl,r,rfl,((h3.grow zi).upd u8).less,(rP.trans zi).aB aR u8⟩
 ·simp only[if_neg aed]at C
  have dQ:F=some ({s with db:=s.db++bn [x.rc]}.turn x.s T.pl):=by
   rw[HN.out,if_pos]
   ·rfl
   ·rw[nP.out,decide_eq_true_eq]
    have:=HC.out
    omega
  have xY:=hdn dQ
  have gH:s.db.length+(put x.rc.bytes).length≤1048576:=by have:=HC.out;omega
  obtain⟨q,hq⟩:=ex1 (r.D.n+k5)
  rw[hq]at C
  clear dQ aed hdU hq
  repeat' first|go_step|simp only[];go_at_K
  refine C.mono ?_;rintro e w6 ⟨u6,A6,c6,rfl,b6,n6,m6,f6⟩
  clear C
  have QU:=FR.trans u6
  obtain⟨W7,M,wL,hM,fD,U7⟩:=az w6 55 #[.slice A6 q c6,.int .i64 (r.dn:Int)]
  have zi:aa [] [] W3 W7:=QU.trans U7.g0
  have oW:=hB3.upd zi
  have xZ:=hBG.upd zi
  have FO:=hJ3.upd zi
  have kK7:=hK3.upd zi
  obtain⟨⟨d0,d1⟩,-⟩:=fD.c2
  have f4:=oW.frozen 4
  have f5:=oW.frozen 5
  have e4:W7.cell? ⟨H,4,none⟩=some (.slice r.D.A r.D.n r.D.c):=oW.cell 4
  have e5:W7.cell? ⟨H,5,none⟩=some (.int .i64 (r.dn:Int)):=oW.cell 5
  obtain⟨W8,Ez⟩:=ex1 ((W7.setCell ⟨H,4,none⟩ (.slice A6 q c6)).setCell ⟨H,5,none⟩ (.int .i64 (r.dn:Int)))
  obtain⟨r1,hr1⟩:∃r1:ai,{r with D:=⟨A6,q,c6,r.D.b++put x.rc.bytes⟩} =r1:=⟨_,rfl⟩
  have u8:aa [H] [H] W7 W8:=by rw[←Ez];exact((aa.refl [H] W7).setCell (p:=⟨H,4,none⟩) (.inl (by simp)) _).setCell (p:=⟨H,5,none⟩) (.inl (by simp)) _
  have yx:ak W8 H 63 r1.cells.toArray:=by rw[←Ez,←hr1];exact(oW.aO 4 _).aO 5 _
  have aX:=xZ.upd u8 (by simpa using dY)
  have hJ8:=FO.upd u8 (by simpa using afY)
  have MS:=kK7.upd u8 (by simpa using ajb)
  have U08:aa [] [] w W8:=(rP.trans zi).aB hHw u8
  have jH:∀k∈ah A6,k∉[H,G]++X:=fun k hk hm=>by
   have h1:=f6 k hk
   have h2:=wI w5 FR k hm
   omega
  have R8:Ref ([H,G]++X) W8 r1 {s with db:=s.db++bn [x.rc]}:=by
   have hk:=(h3.grow zi).upd u8
   have Wv:aD W8 A6 q (r.D.b++put x.rc.bytes):=(b6.upd U7).iN u8 (fun k hk' hm=>jH k (ji k hk') (by simp only[mem_singleton]at hm;subst hm;simp))
   rw[←hr1]
   have S:=h.aJ
   refine⟨⟨Wv,⟨n6,m6⟩,hk.mem.K,hk.mem.kb,hk.mem.L,hk.mem.lb,hk.mem.R,hk.mem.rc,hk.mem.rb,hk.mem.held,hk.mem.hb,hk.mem.big⟩,⟨S.me,S.n,S.pat,S.down,?_,S.dn,S.st,S.kn,S.kr,S.top,S.lv,S.ln,S.lr,S.taken,S.tk,S.rs,S.rn,S.nx,S.wt,S.held,S.ok.disk _ _,?_⟩,fun k hk' hm=>?_⟩
   ·show r.D.b++put x.rc.bytes=s.db++bn [x.rc]
    rw[S.db,kE];simp[bn]
   ·have:=S.dk
    rw[kE]
    simp only[bn,map_nil,flatMap_nil,append_nil,length_append]
    omega
   ·have old:∀{p:Prop},(k∈r.fp)→p:=fun hf=>absurd hm (h3.off k hf)
    rcases ai.sub.1 hk' with hk'|hk'|hk'|hk'|hk'|hk'|hk'|hk'|hk'
    ·exact jH k (ji k hk') hm
    ·exact old (ai.sub.2 (.inr (.inl hk')))
    ·exact old (ai.sub.2 (.inr (.inr (.inl hk'))))
    ·exact old (ai.sub.2 (.inr (.inr (.inr (.inl hk')))))
    ·exact old (ai.sub.2 (.inr (.inr (.inr (.inr (.inl hk'))))))
    ·exact old (ai.sub.2 (.inr (.inr (.inr (.inr (.inr (.inl hk')))))))
    ·exact old (ai.sub.2 (.inr (.inr (.inr (.inr (.inr (.inr (.inl hk'))))))))
    ·exact old (ai.sub.2 (.inr (.inr (.inr (.inr (.inr (.inr (.inr (.inl hk')))))))))
    ·exact old (ai.sub.2 (.inr (.inr (.inr (.inr (.inr (.inr (.inr (.inr hk')))))))))
  have aeV:∀k∈[H,G]++X,k<W8.heap.size:=fun k hk=>by have h1:=wI W7 zi k hk;have:=u8.size;omega
  have C2:=Ja ([H,G]++X) W8 r1 _ R8 aeV x.s (by have:=hm.slot;simp only[Rv.rc]at this;omega) T ((vZ.grow zi).upd u8) hz hy
  rw[ai.arr,aN.val]at C2
  obtain⟨⟨j0,j1,j2,j3,j4⟩,-⟩:=hJ8.c5
  obtain⟨⟨l0,l1,l2,l3,l4,l5⟩,-⟩:=MS.c6
  clear q4 q5 R8 oW xZ FO kK7 u8 hr1 hJ8 MS hB3 hJ3 hK3 hBG hB fT rQ h3 vZ b6 f6 u6 U7 gH jH
  repeat' (fail_if_success with_reducible refine ek (t:=63) rfl ?_);first|go_step|simp only[];go_at_K
  refine bF hii yx abx ?_
  repeat' go_step
  refine C2.mono ?_;rintro e w9 ⟨v,rfl,r9,rfl,m1,m3⟩
  clear C2
  have oZ:=aX.upd m3
  rw[ai.arr]
  refine bK ?_
  refine bL r9.cells hii abx oZ ?_
  intro ZX Jo iQ
  refine wk ?_
  exact ug results207 hii Jo abx ⟨_,by rw[xY.out];rfl,r9,rfl,by rw[xY.out];exact(m1.upd iQ).less,(U08.trans m3).aB aR iQ⟩
