/- For SitePlays. -/
import Derived.Lib.SlKeysI
import Derived.Shelf.SlIterI.Nil
import Derived.Shelf.SortM.Plain
import Derived.Shelf.SortM.SortNone
import Derived.Ground.GgzProg
import Derived.Ground.SlgmProg
import Derived.Shelf.SlGeneric
import Derived.Test.YtijhlbeipglieaaGreatPkSu
import Derived.Test.YtijhlbeipglieaaGreatPkSiteP
set_option linter.all false
set_option maxHeartbeats 4000000
set_option maxRecDepth 100000
namespace aA
open Go Go.Proofs.YtijhlbeipglieaaGreat List
theorem Pt{α:Type}{L:AL α}(h:L.Pairwise fun p q=>p.1<q.1){x:Int}{r:α}(hm:(x,r)∈L):aC x L=some r:=by
  cases hl:aC x L with
  |none=>exact absurd rfl (rX.1 hl _ hm)
  |some z=>rw[rY h (aY hl) hm]
theorem Sy{α:Type}{A B:AL α}{x:Int}{r v:α}(h:(A++(x,r)::B).Pairwise fun p q=>p.1<q.1):aG x v (A++(x,r)::B)=A++(x,v)::B:=by
  rw[Be h ⟨r,by simp⟩,map_append,map_cons,if_pos rfl]
  have h2:=pairwise_append.1 h
  have h3:=pairwise_cons.1 h2.2.1
  congr 1
  · refine(map_congr_left fun p hp=>?_).trans (map_id A)
    have:=h2.2.2 p hp (x,r) (by simp)
    simp only at this
    rw[if_neg (by omega)];rfl
  · congr 1
    refine(map_congr_left fun p hp=>?_).trans (map_id B)
    have:=h3.1 p hp
    simp only at this
    rw[if_neg (by omega)];rfl
namespace Site
variable (s:Site)
def vL(p:Int × Rn):Int × Rn:=(p.1,{p.2 with bG:=p.2.bG+1})
def fF(i:Nat):Site:={s with rs:=(s.rs.take i).map vL++s.rs.drop i,held:=s.held++(s.rs.take (min i 8)).flatMap fun p=>s.tell (asks p.2 p.1) s.n}
theorem NF(l:AL Rn):∀u:Site,u.me=s.me→u.n=s.n→l.foldl (fun u p=>u.others (asks p.2 p.1) u.n) u= {u with held:=u.held++l.flatMap fun p=>s.tell (asks p.2 p.1) s.n}:=by
  induction l with
  |nil=>intro u _ _;simp
  |cons p r ih=>
    intro u hm hn
    rw[foldl_cons,bH,ih {u with held:=u.held++u.tell (asks p.2 p.1) u.n} hm hn,flatMap_cons,←append_assoc]
    have:u.tell (asks p.2 p.1) u.n=s.tell (asks p.2 p.1) s.n:=by unfold tell;rw[hm,hn]
    rw[this]
theorem Sz:s.again=s.fF s.rs.length:=by
  unfold again fF
  rw[NF s _ {s with rs:=bS (fun r=>{r with bG:=r.bG+1}) s.rs} rfl rfl,take_length,drop_length,append_nil]
  have:s.rs.take (min s.rs.length 8)=s.rs.take 8:=by
    rcases Nat.le_total s.rs.length 8 with h|h
    · rw[Nat.min_eq_left h,take_length,take_of_length_le h]
    · rw[Nat.min_eq_right h]
  rw[this]
  rfl
theorem KC:s.fF 0=s:=by unfold fF;simp
theorem NG{i:Nat}(_h:i<s.rs.length): {s.fF i with rs:=(s.rs.take (i+1)).map vL++s.rs.drop (i+1)} =if i<8 then {s.fF (i+1)with held:=(s.fF i).held}else s.fF (i+1):=by
  split
  · rfl
  · unfold fF
    rw[show min (i+1) 8=8 by omega,show min i 8=8 by omega]
theorem NH{i:Nat}(h:i<s.rs.length)(h8:i<8):({s.fF i with rs:=(s.rs.take (i+1)).map vL++s.rs.drop (i+1)} :Site).others (asks s.rs[i].2 s.rs[i].1) s.n=s.fF (i+1):=by
  rw[bH]
  unfold fF
  rw[show min (i+1) 8=i+1 by omega,show min i 8=i by omega,take_succ_eq_append_getElem h,flatMap_append]
  simp only[flatMap_cons,flatMap_nil,append_nil,append_assoc]
  rfl
theorem NI{i:Nat}(hi:i<s.rs.length)(hs:(s.fF i).rs.Pairwise fun p q=>p.1<q.1):aG s.rs[i].1 (vL s.rs[i]).2 (s.fF i).rs=(s.rs.take (i+1)).map vL++s.rs.drop (i+1)∧aC s.rs[i].1 (s.fF i).rs=some s.rs[i].2:=by
  have e:(s.fF i).rs=(s.rs.take i).map vL++(s.rs[i].1,s.rs[i].2)::s.rs.drop (i+1):=by
    show _++_=_
    rw[drop_eq_getElem_cons hi]
  rw[e]at hs ⊢
  refine⟨?_,Pt hs (by simp)⟩
  rw[Sy hs,take_succ_eq_append_getElem hi,map_append]
  simp[vL]
theorem KD(i:Nat):(s.fF i).held.length≤s.held.length+8*s.n:=by
  unfold fF
  show(s.held++_).length≤_
  rw[length_append,length_flatMap]
  have:∀l:AL Rn,(l.map fun p=>(s.tell (asks p.2 p.1) s.n).length).sum≤l.length*s.n:=by
    intro l
    induction l with
    |nil=>simp
    |cons p r ih=>
      have:=s.gQ (asks p.2 p.1) s.n
      rw[map_cons,sum_cons,length_cons,Nat.add_mul];omega
  have h1:=this (s.rs.take (min i 8))
  have h2:(s.rs.take (min i 8)).length≤8:=by rw[length_take];omega
  have h3:=Nat.mul_le_mul_right s.n h2
  omega
end Site
open Go.RowKit Go.Maps
abbrev Up(l:List Int):Prop:=l.Pairwise fun a b=>a<b
theorem XM{ss ks:List Int}(hp:ss.Perm ks)(hk:Up ks):ss.mergeSort (fun x y=>decide (x≤y))=ks:=by
  have h1:(ss.mergeSort (fun x y=>decide (x≤y))).Pairwise fun a b=>decide (a≤b)=true:=
    pairwise_mergeSort (fun a b c h1 h2=>by simp only[decide_eq_true_eq]at *;omega) (fun a b=>by simp only[Bool.or_eq_true,decide_eq_true_eq];omega) ss
  refine List.Perm.eq_of_pairwise (le:=fun a b=>decide (a≤b)=true) (fun a b _ _ h1 h2=>by simp only[decide_eq_true_eq]at h1 h2;omega) h1 (hk.imp fun h=>by simp only[decide_eq_true_eq];omega) ((mergeSort_perm _ _).trans hp)
def wQ(M:KV):List Int:=M.map Prod.fst
theorem G6(M:KV):intKeys (lV M)=wQ M:=by
  unfold lV wQ intKeys
  simp only[map_map]
  exact map_congr_left fun p _=>rfl
end aA
namespace Go.Proofs.YtijhlbeipglieaaGreat
open Go.RowKit Go.Maps Go.Sort Go.Shelf Go.Proofs Go.Proofs.Tryz List
def Tryz.ED:Go.Shelf.Ren:=⟨fun|7=>159|10=>227|n=>n,fun|23=>119|26=>3|3=>128|28=>256|0=>0|27=>255|33=>114|4=>4|n=>n,fun|n=>n⟩
theorem Tryz.Wp:Go.Proofs.SlLaysZI.n7 prog Tryz.ED:={
  mixed:=by kernel_rfl,
  f7:=⟨Tryz.f159.name,by decide,func159.trans (congrArg some (by kernel_rfl))⟩,
  f10:=⟨Tryz.f227.name,by decide,func227.trans (congrArg some (by kernel_rfl))⟩,
  t0:=underlying0,
  a0:=isAgg0,
  z0:=sizeOf0,
  v0:=zeroValue0,
  t4:=underlying4,
  a4:=isAgg4,
  z4:=sizeOf4,
  v4:=zeroValue4,
  t23:=underlying119,
  a23:=isAgg119,
  z23:=sizeOf119,
  v23:=zeroValue119,
  t26:=underlying3,
  a26:=isAgg3,
  z26:=sizeOf3,
  v26:=zeroValue3,
  t27:=underlying255,
  a27:=isAgg255,
  z27:=sizeOf255,
  v27:=zeroValue255,
  t28:=underlying256,
  a28:=isAgg256,
  z28:=sizeOf256,
  v28:=zeroValue256,
  t33:=underlying114,
  a33:=isAgg114,
  z33:=sizeOf114,
  v33:=zeroValue114}
def Tryz.zZ:Go.Shelf.Ren:=⟨fun|6=>158|8=>225|9=>226|11=>264|13=>266|12=>265|23=>292|24=>293|14=>283|15=>284|16=>285|17=>286|18=>287|19=>288|20=>289|21=>290|22=>291|25=>299|26=>300|27=>301|28=>302|29=>303|30=>267|31=>304|n=>n,fun|26=>3|28=>256|24=>168|0=>0|3=>3|37=>288|48=>291|50=>209|4=>4|40=>378|39=>377|45=>176|5=>5|9=>9|51=>393|55=>207|57=>398|58=>48|33=>114|n=>n,fun|n=>n⟩
theorem Tryz.XN:Go.Proofs.SlLaysZI.n6 prog Tryz.zZ:={
  mixed:=by kernel_rfl,
  f6:=⟨Tryz.f158.name,by decide,func158.trans (congrArg some (by kernel_rfl))⟩,
  f8:=⟨Tryz.f225.name,by decide,func225.trans (congrArg some (by kernel_rfl))⟩,
  f11:=⟨Tryz.f264.name,by decide,func264.trans (congrArg some (by kernel_rfl))⟩,
  t0:=underlying0,
  a0:=isAgg0,
  z0:=sizeOf0,
  v0:=zeroValue0,
  t24:=underlying168,
  a24:=isAgg168,
  z24:=sizeOf168,
  v24:=zeroValue168,
  t26:=underlying3,
  a26:=isAgg3,
  z26:=sizeOf3,
  v26:=zeroValue3,
  t28:=underlying256,
  a28:=isAgg256,
  z28:=sizeOf256,
  v28:=zeroValue256,
  i26:=by kernel_rfl}
def Tryz.Pv:Go.Shelf.Ren:=⟨fun|5=>226|8=>266|7=>265|19=>292|20=>293|10=>283|11=>284|12=>285|13=>286|14=>287|15=>288|16=>289|17=>290|18=>291|30=>299|31=>300|32=>301|33=>302|34=>303|35=>267|40=>304|n=>n,fun|23=>168|25=>3|3=>3|32=>288|22=>168|0=>0|44=>291|46=>209|4=>4|36=>378|35=>377|41=>176|5=>5|9=>9|53=>393|57=>207|63=>398|64=>48|n=>n,fun|n=>n⟩
theorem Tryz.Ws:Go.Proofs.SlLaysM.n5 prog Tryz.Pv:={
  mixed:=by kernel_rfl,
  f5:=⟨Tryz.f226.name,by decide,func226.trans (congrArg some (by kernel_rfl))⟩,
  f7:=⟨Tryz.f265.name,by decide,func265.trans (congrArg some (by kernel_rfl))⟩,
  f8:=func266.trans (congrArg some (by kernel_rfl)),
  f10:=⟨Tryz.f283.name,by decide,func283.trans (congrArg some (by kernel_rfl))⟩,
  f11:=⟨Tryz.f284.name,by decide,func284.trans (congrArg some (by kernel_rfl))⟩,
  f12:=⟨Tryz.f285.name,by decide,func285.trans (congrArg some (by kernel_rfl))⟩,
  f13:=⟨Tryz.f286.name,by decide,func286.trans (congrArg some (by kernel_rfl))⟩,
  f14:=⟨Tryz.f287.name,by decide,func287.trans (congrArg some (by kernel_rfl))⟩,
  f15:=⟨Tryz.f288.name,by decide,func288.trans (congrArg some (by kernel_rfl))⟩,
  f16:=⟨Tryz.f289.name,by decide,func289.trans (congrArg some (by kernel_rfl))⟩,
  f17:=⟨Tryz.f290.name,by decide,func290.trans (congrArg some (by kernel_rfl))⟩,
  f18:=⟨Tryz.f291.name,by decide,func291.trans (congrArg some (by kernel_rfl))⟩,
  f19:=func292.trans (congrArg some (by kernel_rfl)),
  f20:=func293.trans (congrArg some (by kernel_rfl)),
  f30:=⟨Tryz.f299.name,by decide,func299.trans (congrArg some (by kernel_rfl))⟩,
  f31:=func300.trans (congrArg some (by kernel_rfl)),
  f32:=func301.trans (congrArg some (by kernel_rfl)),
  f33:=⟨Tryz.f302.name,by decide,func302.trans (congrArg some (by kernel_rfl))⟩,
  f34:=⟨Tryz.f303.name,by decide,func303.trans (congrArg some (by kernel_rfl))⟩,
  f35:=⟨Tryz.f267.name,by decide,func267.trans (congrArg some (by kernel_rfl))⟩,
  f40:=⟨Tryz.f304.name,by decide,func304.trans (congrArg some (by kernel_rfl))⟩,
  t0:=underlying0,
  a0:=isAgg0,
  z0:=sizeOf0,
  v0:=zeroValue0,
  t3:=underlying3,
  a3:=isAgg3,
  z3:=sizeOf3,
  v3:=zeroValue3,
  t4:=underlying4,
  a4:=isAgg4,
  z4:=sizeOf4,
  v4:=zeroValue4,
  t5:=underlying5,
  a5:=isAgg5,
  z5:=sizeOf5,
  v5:=zeroValue5,
  t9:=underlying9,
  a9:=isAgg9,
  z9:=sizeOf9,
  v9:=zeroValue9,
  t22:=underlying168,
  a22:=isAgg168,
  z22:=sizeOf168,
  v22:=zeroValue168,
  t23:=underlying168,
  a23:=isAgg168,
  z23:=sizeOf168,
  v23:=zeroValue168,
  t25:=underlying3,
  a25:=isAgg3,
  z25:=sizeOf3,
  v25:=zeroValue3,
  t32:=underlying288,
  a32:=isAgg288,
  z32:=sizeOf288,
  v32:=zeroValue288,
  t35:=underlying377,
  a35:=isAgg377,
  z35:=sizeOf377,
  v35:=zeroValue377,
  t36:=underlying378,
  a36:=isAgg378,
  z36:=sizeOf378,
  v36:=zeroValue378,
  t41:=underlying176,
  a41:=isAgg176,
  z41:=sizeOf176,
  v41:=zeroValue176,
  t44:=underlying291,
  a44:=isAgg291,
  z44:=sizeOf291,
  v44:=zeroValue291,
  t46:=underlying209,
  a46:=isAgg209,
  z46:=sizeOf209,
  v46:=zeroValue209,
  t53:=underlying393,
  a53:=isAgg393,
  z53:=sizeOf393,
  v53:=zeroValue393,
  t57:=underlying207,
  a57:=isAgg207,
  z57:=sizeOf207,
  v57:=zeroValue207,
  t63:=underlying398,
  a63:=isAgg398,
  z63:=sizeOf398,
  v63:=zeroValue398,
  t64:=underlying48,
  a64:=isAgg48,
  z64:=sizeOf48,
  v64:=zeroValue48}
open aA
theorem SA{w:World}{b:Nat}{M:KV}(h:bP prog 3 w b M):aA.Up (wQ M):=by
  unfold aA.Up wQ
  rw[pairwise_map]
  exact h.sorted (int_keyed underlying3)
theorem KF{e:TypeId}{size base:Nat}{w:World}{v:Value}{n:Nat}{xs:List Value}(h:w.ownsRow base e size v n xs):(∃A c,v=.slice A n c∧aA.Own e size w A n c xs)∧∀A c,v=.slice A n c→0<n→∀k∈ah A,base≤k:=by
  rcases h.2 with⟨hv,hn⟩|⟨g,cap,cur,hv,hb,rest⟩
  · subst hn
    refine⟨⟨none,0,hv,⟨h.1,.inl ⟨rfl,rfl⟩⟩⟩,fun A c _ h0=>by omega⟩
  · refine⟨⟨some ⟨g,0,none⟩,cap,hv,⟨h.1,.inr ⟨g,cap,cur,rfl,Nat.zero_le _,rest⟩⟩⟩,fun A c hv' _ k hk=>?_⟩
    rw[hv]at hv'
    injection hv' with hA
    subst hA
    simp[ah]at hk
    omega
theorem Pw(w:World)(b:Nat):Calls prog 159 #[.map (some b)] w fun e w'=>
    e=.returned (.func (.func 227) #[] #[.pointer (some ⟨w.heap.size,0,none⟩)])∧w'=w.alloc (.cells #[.map (some b)] 119):=
  (callsIn_wide (n:=5)).1 (AnyZI.keys_in Tryz.Wp Fence.wide 5 trivial rfl (some b) w)
theorem YE(m:Nat):AnyZI.SortsIn prog Tryz.zZ Fence.wide m:=
  ⟨fun blk off cap ss W hH apH hsz=>callsIn_wide.2 (AnyM.slices_Sort_int Tryz.Ws blk off cap ss W hH apH hsz),
   fun p cap W=>callsIn_wide.2 (AnyM.slices_Sort_int_none Tryz.Ws p cap W)⟩
theorem Gs(w:World)(B b:Nat)(M:KV)(hB:ak w B 119 #[.map (some b)])(h:bP prog 3 w b M)(hl:M.length≤1000000) :
    Calls prog 158 #[.func (.func 227) #[] #[.pointer (some ⟨B,0,none⟩)]] w fun e w'=>
      ∃A c,e=.returned (.slice A M.length c)∧aA.Own 3 1 w' A M.length c ((wQ M).map (Value.int .i64))∧aa [] (ah A) w w':=by
  have hq:=hB.cell 0
  simp only[List.getElem?_toArray,List.getElem?_cons_zero]at hq
  have hsz:Maps.size (lV M:DataW Value)=M.length:=uK M
  have apI:SeqGives Fence.wide 2 prog 227 #[.pointer (some ⟨B,0,none⟩)] encZ (fun ss=>ss.Perm (intKeys (lV M))) (Maps.size (lV M:DataW Value)) w:=
    AnyZI.keys_gives (ρ:=Tryz.ED) {Tryz.Wp with} Fence.wide _ trivial rfl (by omega) B b M.length _ w hB.lt hq h
  have cS:=AnyZI.sorted_in Tryz.XN Fence.wide 5 trivial trivial trivial trivial rfl (by omega) (YE _) (enters_of func226 (by kernel_rfl) rfl) 227 #[.pointer (some ⟨B,0,none⟩)] trivial (enters_of func227 (by kernel_rfl) rfl) _ _ (by rw[hsz];unfold maxLen;omega) (by rw[hsz];omega) w apI
  refine((callsIn_wide (n:=5)).1 cS).mono ?_
  rintro e w' ⟨v,ss,rfl,hp,acy,alK,hb⟩
  rw[G6]at hp
  have hup:=SA h
  rw[XM hp hup]at acy
  have hlen:ss.length=M.length:=by rw[hp.length_eq];simp[wQ]
  rw[hlen]at acy
  obtain⟨⟨A,c,rfl,ho⟩,ai6⟩:=KF acy
  refine⟨A,c,rfl,ho,aa.G7 hb (fun k hk=>?_)⟩
  rcases Nat.eq_zero_or_pos M.length with h0|h0
  · have hs:ss= []:=eq_nil_of_length_eq_zero (by omega)
    have:=alK.2 hs
    injection this with hA
    subst hA
    simp[ah]at hk
  · exact ai6 A c rfl h0 k hk
variable [eU]
section
variable {w:World} {M:af}
theorem ay.YF(h:ay w M){x:Int}(hx:(Lit.int .i64 x).wf=true) :
    (Instr.lookup 119 (.map (some M.br)) (.int .i64 x) false).run prog w=.ok (((aC x M.rs).map aS.ptr).getD (.pointer none)) w:=by
  have:=h.nN.look underlying3 underlying119 (Px w) hx
  rw[qj,fH]at this
  rw[this]
theorem ay.older{w:World}{M:af}(h:ay w M){x:Int}{r:aS}(hl:aC x M.rs=some r) :
    ay (w.setCell ⟨r.g,6,none⟩ (.int .i64 ((r.bG:Int)+1))) {M with rs:=aG x {r with bG:=r.bG+1} M.rs}∧
    aa M.fp ({M with rs:=aG x {r with bG:=r.bG+1} M.rs} :af).fp w (w.setCell ⟨r.g,6,none⟩ (.int .i64 ((r.bG:Int)+1))):=by
  have acm:=aY hl
  have hR:=h.bV _ acm
  have u6:aa [r.g] [r.g] w (w.setCell ⟨r.g,6,none⟩ (.int .i64 ((r.bG:Int)+1))):=(aa.refl [r.g] w).setCell (p:=⟨r.g,6,none⟩) (.inl (by simp)) _
  have hX:∀k∈[r.g],bW w k=some (some 132):=by simp only[mem_singleton];rintro k rfl;exact hR.tg
  have hrs:=h.ok.rs (x,r.pl) (mem_map.2 ⟨_,acm,rfl⟩)
  refine h.NJ hl {r with bG:=r.bG+1} rfl (X:=[r.g]) (fun k hk=>by rw[mem_singleton.1 hk];simp[aS.fp]) u6 ⟨?_,hR.EE.upd u6 (bX hR.tP hX (by decide)),hR.G8.upd u6 (bX hR.tV hX (by decide))⟩ (fun k hk=>.inl hk) (fun k hk=>.inl hk) (fun y hy=>h.o8 acm hy) ⟨hrs.2.2.1,hrs.2.2.2.1,hrs.2.2.2.2⟩
  have KB:=hR.blk.aO 6 (.int .i64 ((r.bG:Int)+1))
  simpa using KB
end
theorem XO{w:World}{M:af}(h:ay w M){x:Int}{r:aS}(hm:(x,r)∈M.rs):aD w (ic r x).A (ic r x).n (ic r x).b∧∀k∈ah (ic r x).A,k∉M.fp:=by
  have hb:=h.o8 hm (x:=r.v) (by simp[aS.bytes])
  have hf:∀k∈ah r.v.A,k∉M.fp:=h.G9 (by simp only[af.bytes,mem_append,mem_flatMap];exact .inr (.inr (.inl ⟨_,hm,by simp[aS.bytes]⟩)))
  unfold ic
  split
  · exact⟨hb.1.rd,hf⟩
  · exact⟨aD.nil _ _,by simp[ah]⟩
theorem Py(w:World)(M:af)(h:ay w M)(hl:M.held.length≤800000000)(NK:∀p∈M.pl.rs,p.2.bG≤4000000000000000000) :
    Calls prog 95 #[M.ptr] w fun e w'=>e=.returned (.tuple #[])∧Gone w w' M M.pl.again:=by
  have q8:w.cell? ⟨M.gs,8,none⟩=some (.map (some M.br)):=h.blk.cell 8
  have C0:=Pw w M.br
  have u0:aa [] [] w (w.alloc (.cells #[.map (some M.br)] 119)):=(aa.refl [] w).alloc _
  have h0:=h.au u0
  have hkl:(bS aS.ptr M.rs).length=M.pl.rs.length:=by rw[mE];show _=(bS _ _).length;rw[mE]
  have hlen:M.pl.rs.length≤4096:=by rw[←hkl,mE];exact h.NL
  have C1:=Gs (w.alloc (.cells #[.map (some M.br)] 119)) w.heap.size M.br (bS aS.ptr M.rs) (ak.new _ _ _) h0.nN (by rw[hkl];omega)
  have hks:wQ (bS aS.ptr M.rs)=M.pl.rs.map Prod.fst:=by
    show(bS aS.ptr M.rs).map _=(bS aS.pl M.rs).map _
    unfold bS
    simp
  rw[hkl,hks]at C1
  have n7:=h.ok.n7
  have HAG:=hdn (Site.Sz M.pl)
  obtain⟨R,hR⟩:=ex1 M.pl.again
  rw[hR]at HAG ⊢
  clear hR
  rw[af.ptr]
  go_enter func95,ntmps95
  repeat' go_step
  refine C0.mono ?_;rintro e w1 ⟨rfl,rfl⟩
  repeat' first|go_step|simp only[];go_at_K
  refine C1.mono ?_;rintro e w2 ⟨A,c,rfl,ho,hu⟩
  have h2:=h0.au hu
  have U2:=u0.trans hu
  have Ab:∀k∈ah A,k∉M.fp:=fun k hk hm=>by have h1:=(aa.refl [] _).new hu k hk;have h3:=h0.lt k hm;omega
  have hn1:M.pl.n=M.n:=rfl
  clear C0 C1 q8 h0
  refine wk ?_
  go_loopw [13] (fun v13 wr=>∃(i:Nat)(M':af),i≤M.pl.rs.length∧v13=.int .i64 (i:Int)∧ay wr M'∧M'.pl=M.pl.fF i∧M'.gs=M.gs∧aa M.fp M'.fp w2 wr) (fun v13 _=>M.pl.rs.length-(intOf v13).toNat)
  case atStart=>exact⟨0,M,by omega,rfl,h2,(Site.KC _).symm,rfl,aa.refl _ _⟩
  case round=>
    obtain⟨i,M',hi,rfl,h',hp,hg,U⟩:=hrel
    by_cases hlt:i<M.pl.rs.length
    · have hil:(i:Int)<(M.pl.rs.length:Int):=by omega
      have hw1:=aA.wr ((i:Int)+1)
      have ho':=ho.upd U Ab
      obtain⟨ad,u,rfl,hu',hc⟩:=ho'.rd.at_ (k:=i) (by omega)
      rw[List.getElem?_map,List.getElem?_map,List.getElem?_eq_getElem hlt,Option.map_some,Option.map_some,Option.some.injEq]at hu'
      subst hu'
      have aj8:(M.pl.fF i).rs.Pairwise fun p q=>p.1<q.1:=by
        rw[←hp]
        show(bS aS.pl M'.rs).Pairwise _
        unfold bS
        rw[pairwise_map]
        exact h'.Ha
      obtain⟨ag4,hlk⟩:=M.pl.NI hlt aj8
      have hag:=NK _ (getElem_mem hlt)
      have jw:=h.ok.rs _ (getElem_mem hlt)
      have adS:=M.pl.NH hlt
      have hold:=M.pl.NG hlt
      obtain⟨x,hx⟩:=ex1 (M.pl.rs[i].1)
      rw[←hp]at hlk ag4
      obtain⟨r,hr,xR⟩:∃r,aC (M.pl.rs[i].1) M'.rs=some r∧r.pl=M.pl.rs[i].2:=by
        have:aC (M.pl.rs[i].1) (bS aS.pl M'.rs)=some M.pl.rs[i].2:=hlk
        rw[fH]at this
        obtain⟨r,h1,h2⟩:=Option.map_eq_some_iff.1 this
        exact⟨r,h1,h2⟩
      have aib:r.bG≤4000000000000000000:=by rw[←xR]at hag;exact hag
      have NM:aG M.pl.rs[i].1 ({r with bG:=r.bG+1} :aS).pl M'.pl.rs=(M.pl.rs.take (i+1)).map Site.vL++M.pl.rs.drop (i+1):=by
        rw[←ag4];congr 1;unfold Site.vL;rw[←xR];rfl
      rw[←xR]at adS
      rw[hx]at hc hr jw adS NM
      clear ag4 hlk aj8 hag xR hx
      have hwf:(Lit.int .i64 x).wf=true:=jV (by omega) (by omega)
      have NN:=h'.YF hwf
      rw[hr]at NN
      simp only[Option.map_some,Option.getD_some]at NN
      have hR:=h'.bV _ (aY hr)
      obtain⟨h3,V3⟩:=h'.older hr
      obtain⟨M3,jP⟩:∃M3:af,{M' with rs:=aG x {r with bG:=r.bG+1} M'.rs} =M3:=⟨_,rfl⟩
      rw[jP]at h3 V3
      have qb:(x,({r with bG:=r.bG+1} :aS))∈M3.rs:=by rw[←jP];exact eY.2 (.inl rfl)
      have hp3:M3.pl= {M.pl.fF i with rs:=(M.pl.rs.take (i+1)).map Site.vL++M.pl.rs.drop (i+1)}:=by
        rw[←NM,←hp,←jP]
        unfold af.pl
        simp only[fE]
      have hg3:M3.gs=M.gs:=by rw[←jP];exact hg
      have EF:M3.n=M.n:=congrArg Site.n hp3
      have hh3:M3.held.length≤900000000:=by
        rw[←af.bf,hp3]
        have:=M.pl.KD i
        rw[af.bf]at this
        show(M.pl.fF i).held.length≤_
        omega
      have q8:wr.cell? ⟨M.gs,8,none⟩=some (.map (some M'.br)):=by rw[←hg];exact h'.blk.cell 8
      have r6:wr.cell? ⟨r.g,6,none⟩=some (.int .i64 (r.bG:Int)):=hR.blk.cell 6
      have f6:wr.frozen? ⟨r.g,6,none⟩=false:=hR.blk.frozen 6
      have hw2:=aA.wr ((r.bG:Int)+1)
      rw[aS.ptr]at NN
      have U3:=U.trans V3
      obtain⟨w3,hw3⟩:=ex1 (wr.setCell ⟨r.g,6,none⟩ (.int .i64 ((r.bG:Int)+1)))
      rw[hw3]at h3 U3
      clear jP hp h' V3 NM hR U
      by_cases h8:i<8
      · have d8:decide ((i:Int)<8)=true:=dTo
        have KS:=hdn (adS h8)
        have C4:=wR w3 _ (h3.bV _ qb) x
        have hV:=XO h3 qb
        have hms:=LW {r with bG:=r.bG+1} x
        have adn:(ic {r with bG:=r.bG+1} x).ms.Fit:=by rw[hms];exact Site.iT ⟨jw.1,jw.2.1⟩ ((h3.ok.rs (x,({r with bG:=r.bG+1} :aS).pl) (mem_map.2 ⟨_,qb,rfl⟩)).2.2.2.1) ((h3.ok.rs (x,({r with bG:=r.bG+1} :aS).pl) (mem_map.2 ⟨_,qb,rfl⟩)).2.2.1)
        have C5:=fun(w4:World)(hu:aa [] [] w3 w4)=>kL w4 M3 (h3.au hu) (ic {r with bG:=r.bG+1} x) adn (hV.1.upd hu) hV.2 hh3
        have HA:=hdn (show M3.pl.others (ic {r with bG:=r.bG+1} x).ms M3.n=M.pl.fF (i+1) by
          rw[hms,hp3,EF,←hn1,←adS h8];rfl)
        obtain⟨av,qd⟩:∃z,ic {r with bG:=r.bG+1} x=z:=⟨_,rfl⟩
        rw[qd]at C4 HA
        simp only[qd,af.ptr,hg3]at C5
        simp only[aS.ptr]at C4
        obtain⟨vv,hvv⟩:∃z,av.val=z:=⟨_,rfl⟩
        rw[hvv]at C4
        simp only[hvv]at C5
        clear qd adn hV hms qb hp3 adS hold h3
        repeat' go_step
        refine C4.mono ?_;rintro e w4 ⟨rfl,bM⟩
        repeat' first|go_step|simp only[];go_at_K
        refine(C5 w4 bM).mono ?_;rintro e w5 ⟨rfl,M5,h5,sW,hg5,-,U5⟩
        refine wk ?_
        exact⟨⟨i+1,M5,by omega,by simp,h5,sW.trans HA.out,hg5.trans hg3,(U3.trans (bM.up M3.fp)).trans U5⟩,by simp[intOf];omega⟩
      · have d8:decide ((i:Int)<8)=false:=dFo
        have HA:=hdn (show M3.pl=M.pl.fF (i+1) by rw[hp3,hold,if_neg h8])
        clear adS hold hp3
        refine wk ?_
        exact⟨⟨i+1,M3,by omega,by simp,h3,HA.out,hg3,U3⟩,by simp[intOf];omega⟩
    · obtain rfl:i=M.pl.rs.length:=by omega
      have hil:¬ ((M.pl.rs.length:Int)<(M.pl.rs.length:Int)):=by omega
      have KEY:=hdn (show Gone w wr M R from⟨M',h',hp.trans HAG.out.symm,hg,(U2.up M.fp).trans U⟩)
      clear h' U hp
      refine wk ?_
      exact enR ⟨rfl,KEY.out⟩
