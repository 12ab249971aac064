/- For WorldCalm. -/
import Derived.Lib.SlKeysI
import Derived.Shelf.SlIterI.Nil
import Derived.Shelf.SortM.Plain
import Derived.Shelf.SortM.SortNone
import Derived.Ground.GgzProg
import Derived.Ground.SlgmProg
import Derived.Shelf.SlGeneric
import Derived.Test.YtijhlbeipglieaaGreatPkSu
import Derived.Test.YtijhlbeipglieaaGreatPkSiteP
set_option linter.all false
set_option maxHeartbeats 4000000
set_option maxRecDepth 100000
namespace aL
open Go Go.Proofs.YtijhlbeipglieaaGreat List
theorem LN{α:Type}{L:AL α}(h:L.Pairwise fun p q=>p.1<q.1){x:Int}{r:α}(hm:(x,r)∈L):aD x L=some r:=by
  cases hl:aD x L with
  |none=>exact absurd rfl (kb.1 hl _ hm)
  |some z=>rw[pV h (bG hl) hm]
theorem O2{α:Type}{A B:AL α}{x:Int}{r v:α}(h:(A++(x,r)::B).Pairwise fun p q=>p.1<q.1):aT x v (A++(x,r)::B)=A++(x,v)::B:=by
  rw[ya h ⟨r,by simp⟩,map_append,map_cons,if_pos rfl]
  have h2:=pairwise_append.1 h
  have h3:=pairwise_cons.1 h2.2.1
  congr 1
  · refine(map_congr_left fun p hp=>?_).trans (map_id A)
    have:=h2.2.2 p hp (x,r) (by simp)
    simp only at this
    rw[if_neg (by omega)];rfl
  · congr 1
    refine(map_congr_left fun p hp=>?_).trans (map_id B)
    have:=h3.1 p hp
    simp only at this
    rw[if_neg (by omega)];rfl
namespace Site
variable (s:Site)
def rU(p:Int × Rn):Int × Rn:=(p.1,{p.2 with cV:=p.2.cV+1})
def fj(i:Nat):Site:={s with rs:=(s.rs.take i).map rU++s.rs.drop i,held:=s.held++(s.rs.take (min i 8)).flatMap fun p=>s.tell (asks p.2 p.1) s.n}
theorem Jv(l:AL Rn):∀u:Site,u.me=s.me→u.n=s.n→l.foldl (fun u p=>u.others (asks p.2 p.1) u.n) u= {u with held:=u.held++l.flatMap fun p=>s.tell (asks p.2 p.1) s.n}:=by
  induction l with
  |nil=>intro u _ _;simp
  |cons p r ih=>
    intro u hm hn
    rw[foldl_cons,bH,ih {u with held:=u.held++u.tell (asks p.2 p.1) u.n} hm hn,flatMap_cons,←append_assoc]
    have:u.tell (asks p.2 p.1) u.n=s.tell (asks p.2 p.1) s.n:=by unfold tell;rw[hm,hn]
    rw[this]
theorem O3:s.again=s.fj s.rs.length:=by
  unfold again fj
  rw[Jv s _ {s with rs:=cD (fun r=>{r with cV:=r.cV+1}) s.rs} rfl rfl,take_length,drop_length,append_nil]
  have:s.rs.take (min s.rs.length 8)=s.rs.take 8:=by
    rcases Nat.le_total s.rs.length 8 with h|h
    · rw[Nat.min_eq_left h,take_length,take_of_length_le h]
    · rw[Nat.min_eq_right h]
  rw[this]
  rfl
theorem GK:s.fj 0=s:=by unfold fj;simp
theorem Jw{i:Nat}(_h:i<s.rs.length): {s.fj i with rs:=(s.rs.take (i+1)).map rU++s.rs.drop (i+1)} =if i<8 then {s.fj (i+1)with held:=(s.fj i).held}else s.fj (i+1):=by
  split
  · rfl
  · unfold fj
    rw[show min (i+1) 8=8 by omega,show min i 8=8 by omega]
theorem Jx{i:Nat}(h:i<s.rs.length)(h8:i<8):({s.fj i with rs:=(s.rs.take (i+1)).map rU++s.rs.drop (i+1)} :Site).others (asks s.rs[i].2 s.rs[i].1) s.n=s.fj (i+1):=by
  rw[bH]
  unfold fj
  rw[show min (i+1) 8=i+1 by omega,show min i 8=i by omega,take_succ_eq_append_getElem h,flatMap_append]
  simp only[flatMap_cons,flatMap_nil,append_nil,append_assoc]
  rfl
theorem Jy{i:Nat}(hi:i<s.rs.length)(hs:(s.fj i).rs.Pairwise fun p q=>p.1<q.1):aT s.rs[i].1 (rU s.rs[i]).2 (s.fj i).rs=(s.rs.take (i+1)).map rU++s.rs.drop (i+1)∧aD s.rs[i].1 (s.fj i).rs=some s.rs[i].2:=by
  have e:(s.fj i).rs=(s.rs.take i).map rU++(s.rs[i].1,s.rs[i].2)::s.rs.drop (i+1):=by
    show _++_=_
    rw[drop_eq_getElem_cons hi]
  rw[e]at hs ⊢
  refine⟨?_,LN hs (by simp)⟩
  rw[O2 hs,take_succ_eq_append_getElem hi,map_append]
  simp[rU]
theorem GL(i:Nat):(s.fj i).held.length≤s.held.length+8*s.n:=by
  unfold fj
  show(s.held++_).length≤_
  rw[length_append,length_flatMap]
  have:∀l:AL Rn,(l.map fun p=>(s.tell (asks p.2 p.1) s.n).length).sum≤l.length*s.n:=by
    intro l
    induction l with
    |nil=>simp
    |cons p r ih=>
      have:=s.kd (asks p.2 p.1) s.n
      rw[map_cons,sum_cons,length_cons,Nat.add_mul];omega
  have h1:=this (s.rs.take (min i 8))
  have h2:(s.rs.take (min i 8)).length≤8:=by rw[length_take];omega
  have h3:=Nat.mul_le_mul_right s.n h2
  omega
end Site
open Go.RowKit Go.Maps
abbrev Up(l:List Int):Prop:=l.Pairwise fun a b=>a<b
theorem Tv{ss ks:List Int}(hp:ss.Perm ks)(hk:Up ks):ss.mergeSort (fun x y=>decide (x≤y))=ks:=by
  have h1:(ss.mergeSort (fun x y=>decide (x≤y))).Pairwise fun a b=>decide (a≤b)=true:=
    pairwise_mergeSort (fun a b c h1 h2=>by simp only[decide_eq_true_eq]at *;omega) (fun a b=>by simp only[Bool.or_eq_true,decide_eq_true_eq];omega) ss
  refine List.Perm.eq_of_pairwise (le:=fun a b=>decide (a≤b)=true) (fun a b _ _ h1 h2=>by simp only[decide_eq_true_eq]at h1 h2;omega) h1 (hk.imp fun h=>by simp only[decide_eq_true_eq];omega) ((mergeSort_perm _ _).trans hp)
def tc(M:KV):List Int:=M.map Prod.fst
theorem DH(M:KV):intKeys (kN M)=tc M:=by
  unfold kN tc intKeys
  simp only[map_map]
  exact map_congr_left fun p _=>rfl
end aL
namespace Go.Proofs.YtijhlbeipglieaaGreat
open Go.RowKit Go.Maps Go.Sort Go.Shelf Go.Proofs Go.Proofs.Tryz List
def Tryz.Bn:Go.Shelf.Ren:=⟨fun|7=>159|10=>227|n=>n,fun|23=>119|26=>3|3=>128|28=>256|0=>0|27=>255|33=>114|4=>4|n=>n,fun|n=>n⟩
theorem Tryz.RB:Go.Proofs.SlLaysZI.n7 prog Tryz.Bn:={
  mixed:=by kernel_rfl,
  f7:=⟨Tryz.f159.name,by decide,func159.trans (congrArg some (by kernel_rfl))⟩,
  f10:=⟨Tryz.f227.name,by decide,func227.trans (congrArg some (by kernel_rfl))⟩,
  t0:=underlying0,
  a0:=isAgg0,
  z0:=sizeOf0,
  v0:=zeroValue0,
  t4:=underlying4,
  a4:=isAgg4,
  z4:=sizeOf4,
  v4:=zeroValue4,
  t23:=underlying119,
  a23:=isAgg119,
  z23:=sizeOf119,
  v23:=zeroValue119,
  t26:=underlying3,
  a26:=isAgg3,
  z26:=sizeOf3,
  v26:=zeroValue3,
  t27:=underlying255,
  a27:=isAgg255,
  z27:=sizeOf255,
  v27:=zeroValue255,
  t28:=underlying256,
  a28:=isAgg256,
  z28:=sizeOf256,
  v28:=zeroValue256,
  t33:=underlying114,
  a33:=isAgg114,
  z33:=sizeOf114,
  v33:=zeroValue114}
def Tryz.xc:Go.Shelf.Ren:=⟨fun|6=>158|8=>225|9=>226|11=>264|13=>266|12=>265|23=>292|24=>293|14=>283|15=>284|16=>285|17=>286|18=>287|19=>288|20=>289|21=>290|22=>291|25=>299|26=>300|27=>301|28=>302|29=>303|30=>267|31=>304|n=>n,fun|26=>3|28=>256|24=>168|0=>0|3=>3|37=>288|48=>291|50=>209|4=>4|40=>378|39=>377|45=>176|5=>5|9=>9|51=>393|55=>207|57=>398|58=>48|33=>114|n=>n,fun|n=>n⟩
theorem Tryz.Tw:Go.Proofs.SlLaysZI.n6 prog Tryz.xc:={
  mixed:=by kernel_rfl,
  f6:=⟨Tryz.f158.name,by decide,func158.trans (congrArg some (by kernel_rfl))⟩,
  f8:=⟨Tryz.f225.name,by decide,func225.trans (congrArg some (by kernel_rfl))⟩,
  f11:=⟨Tryz.f264.name,by decide,func264.trans (congrArg some (by kernel_rfl))⟩,
  t0:=underlying0,
  a0:=isAgg0,
  z0:=sizeOf0,
  v0:=zeroValue0,
  t24:=underlying168,
  a24:=isAgg168,
  z24:=sizeOf168,
  v24:=zeroValue168,
  t26:=underlying3,
  a26:=isAgg3,
  z26:=sizeOf3,
  v26:=zeroValue3,
  t28:=underlying256,
  a28:=isAgg256,
  z28:=sizeOf256,
  v28:=zeroValue256,
  i26:=by kernel_rfl}
def Tryz.LO:Go.Shelf.Ren:=⟨fun|5=>226|8=>266|7=>265|19=>292|20=>293|10=>283|11=>284|12=>285|13=>286|14=>287|15=>288|16=>289|17=>290|18=>291|30=>299|31=>300|32=>301|33=>302|34=>303|35=>267|40=>304|n=>n,fun|23=>168|25=>3|3=>3|32=>288|22=>168|0=>0|44=>291|46=>209|4=>4|36=>378|35=>377|41=>176|5=>5|9=>9|53=>393|57=>207|63=>398|64=>48|n=>n,fun|n=>n⟩
theorem Tryz.RC:Go.Proofs.SlLaysM.n5 prog Tryz.LO:={
  mixed:=by kernel_rfl,
  f5:=⟨Tryz.f226.name,by decide,func226.trans (congrArg some (by kernel_rfl))⟩,
  f7:=⟨Tryz.f265.name,by decide,func265.trans (congrArg some (by kernel_rfl))⟩,
  f8:=func266.trans (congrArg some (by kernel_rfl)),
  f10:=⟨Tryz.f283.name,by decide,func283.trans (congrArg some (by kernel_rfl))⟩,
  f11:=⟨Tryz.f284.name,by decide,func284.trans (congrArg some (by kernel_rfl))⟩,
  f12:=⟨Tryz.f285.name,by decide,func285.trans (congrArg some (by kernel_rfl))⟩,
  f13:=⟨Tryz.f286.name,by decide,func286.trans (congrArg some (by kernel_rfl))⟩,
  f14:=⟨Tryz.f287.name,by decide,func287.trans (congrArg some (by kernel_rfl))⟩,
  f15:=⟨Tryz.f288.name,by decide,func288.trans (congrArg some (by kernel_rfl))⟩,
  f16:=⟨Tryz.f289.name,by decide,func289.trans (congrArg some (by kernel_rfl))⟩,
  f17:=⟨Tryz.f290.name,by decide,func290.trans (congrArg some (by kernel_rfl))⟩,
  f18:=⟨Tryz.f291.name,by decide,func291.trans (congrArg some (by kernel_rfl))⟩,
  f19:=func292.trans (congrArg some (by kernel_rfl)),
  f20:=func293.trans (congrArg some (by kernel_rfl)),
  f30:=⟨Tryz.f299.name,by decide,func299.trans (congrArg some (by kernel_rfl))⟩,
  f31:=func300.trans (congrArg some (by kernel_rfl)),
  f32:=func301.trans (congrArg some (by kernel_rfl)),
  f33:=⟨Tryz.f302.name,by decide,func302.trans (congrArg some (by kernel_rfl))⟩,
  f34:=⟨Tryz.f303.name,by decide,func303.trans (congrArg some (by kernel_rfl))⟩,
  f35:=⟨Tryz.f267.name,by decide,func267.trans (congrArg some (by kernel_rfl))⟩,
  f40:=⟨Tryz.f304.name,by decide,func304.trans (congrArg some (by kernel_rfl))⟩,
  t0:=underlying0,
  a0:=isAgg0,
  z0:=sizeOf0,
  v0:=zeroValue0,
  t3:=underlying3,
  a3:=isAgg3,
  z3:=sizeOf3,
  v3:=zeroValue3,
  t4:=underlying4,
  a4:=isAgg4,
  z4:=sizeOf4,
  v4:=zeroValue4,
  t5:=underlying5,
  a5:=isAgg5,
  z5:=sizeOf5,
  v5:=zeroValue5,
  t9:=underlying9,
  a9:=isAgg9,
  z9:=sizeOf9,
  v9:=zeroValue9,
  t22:=underlying168,
  a22:=isAgg168,
  z22:=sizeOf168,
  v22:=zeroValue168,
  t23:=underlying168,
  a23:=isAgg168,
  z23:=sizeOf168,
  v23:=zeroValue168,
  t25:=underlying3,
  a25:=isAgg3,
  z25:=sizeOf3,
  v25:=zeroValue3,
  t32:=underlying288,
  a32:=isAgg288,
  z32:=sizeOf288,
  v32:=zeroValue288,
  t35:=underlying377,
  a35:=isAgg377,
  z35:=sizeOf377,
  v35:=zeroValue377,
  t36:=underlying378,
  a36:=isAgg378,
  z36:=sizeOf378,
  v36:=zeroValue378,
  t41:=underlying176,
  a41:=isAgg176,
  z41:=sizeOf176,
  v41:=zeroValue176,
  t44:=underlying291,
  a44:=isAgg291,
  z44:=sizeOf291,
  v44:=zeroValue291,
  t46:=underlying209,
  a46:=isAgg209,
  z46:=sizeOf209,
  v46:=zeroValue209,
  t53:=underlying393,
  a53:=isAgg393,
  z53:=sizeOf393,
  v53:=zeroValue393,
  t57:=underlying207,
  a57:=isAgg207,
  z57:=sizeOf207,
  v57:=zeroValue207,
  t63:=underlying398,
  a63:=isAgg398,
  z63:=sizeOf398,
  v63:=zeroValue398,
  t64:=underlying48,
  a64:=isAgg48,
  z64:=sizeOf48,
  v64:=zeroValue48}
open aL
theorem O5{w:World}{b:Nat}{M:KV}(h:cz prog 3 w b M):aL.Up (tc M):=by
  unfold aL.Up tc
  rw[pairwise_map]
  exact h.sorted (int_keyed underlying3)
theorem GM{e:TypeId}{size base:Nat}{w:World}{v:Value}{n:Nat}{xs:List Value}(h:w.ownsRow base e size v n xs):(∃A c,v=.slice A n c∧aL.Own e size w A n c xs)∧∀A c,v=.slice A n c→0<n→∀k∈ak A,base≤k:=by
  rcases h.2 with⟨hv,hn⟩|⟨g,cap,cur,hv,hb,rest⟩
  · subst hn
    refine⟨⟨none,0,hv,⟨h.1,.inl ⟨rfl,rfl⟩⟩⟩,fun A c _ h0=>by omega⟩
  · refine⟨⟨some ⟨g,0,none⟩,cap,hv,⟨h.1,.inr ⟨g,cap,cur,rfl,Nat.zero_le _,rest⟩⟩⟩,fun A c oS _ k hk=>?_⟩
    rw[hv]at oS
    injection oS with hA
    subst hA
    simp[ak]at hk
    omega
theorem LP(w:World)(b:Nat):Calls prog 159 #[.map (some b)] w fun e w'=>
    e=.returned (.func (.func 227) #[] #[.pointer (some ⟨w.heap.size,0,none⟩)])∧w'=w.alloc (.cells #[.map (some b)] 119):=
  (callsIn_wide (n:=5)).1 (AnyZI.keys_in Tryz.RB Fence.wide 5 trivial rfl (some b) w)
theorem UR(m:Nat):AnyZI.SortsIn prog Tryz.xc Fence.wide m:=
  ⟨fun aO off cap ss W hH hblk hsz=>callsIn_wide.2 (AnyM.slices_Sort_int Tryz.RC aO off cap ss W hH hblk hsz),
   fun p cap W=>callsIn_wide.2 (AnyM.slices_Sort_int_none Tryz.RC p cap W)⟩
theorem CP(w:World)(B b:Nat)(M:KV)(hB:aQ w B 119 #[.map (some b)])(h:cz prog 3 w b M)(hl:M.length≤1000000) :
    Calls prog 158 #[.func (.func 227) #[] #[.pointer (some ⟨B,0,none⟩)]] w fun e w'=>
      ∃A c,e=.returned (.slice A M.length c)∧aL.Own 3 1 w' A M.length c ((tc M).map (Value.int .i64))∧ab [] (ak A) w w':=by
  have hq:=hB.cell 0
  simp only[List.getElem?_toArray,List.getElem?_cons_zero]at hq
  have hsz:Maps.size (kN M:DataW Value)=M.length:=ra M
  have hseq:SeqGives Fence.wide 2 prog 227 #[.pointer (some ⟨B,0,none⟩)] encZ (fun ss=>ss.Perm (intKeys (kN M))) (Maps.size (kN M:DataW Value)) w:=
    AnyZI.keys_gives (ρ:=Tryz.Bn) {Tryz.RB with} Fence.wide _ trivial rfl (by omega) B b M.length _ w hB.lt hq h
  have cS:=AnyZI.sorted_in Tryz.Tw Fence.wide 5 trivial trivial trivial trivial rfl (by omega) (UR _) (enters_of func226 (by kernel_rfl) rfl) 227 #[.pointer (some ⟨B,0,none⟩)] trivial (enters_of func227 (by kernel_rfl) rfl) _ _ (by rw[hsz];unfold maxLen;omega) (by rw[hsz];omega) w hseq
  refine((callsIn_wide (n:=5)).1 cS).mono ?_
  rintro e w' ⟨v,ss,rfl,hp,hrow,hnil,hb⟩
  rw[DH]at hp
  have LQ:=O5 h
  rw[Tv hp LQ]at hrow
  have hlen:ss.length=M.length:=by rw[hp.length_eq];simp[tc]
  rw[hlen]at hrow
  obtain⟨⟨A,c,rfl,ho⟩,hbase⟩:=GM hrow
  refine⟨A,c,rfl,ho,ab.DI hb (fun k hk=>?_)⟩
  rcases Nat.eq_zero_or_pos M.length with h0|h0
  · have hs:ss= []:=eq_nil_of_length_eq_zero (by omega)
    have:=hnil.2 hs
    injection this with hA
    subst hA
    simp[ak]at hk
  · exact hbase A c rfl h0 k hk
variable [eA]
section
variable {w:World} {M:ae}
theorem aJ.UT(h:aJ w M){x:Int}(hx:(Lit.int .i64 x).wf=true) :
    (Instr.lookup 119 (.map (some M.br)) (.int .i64 x) false).run prog w=.ok (((aD x M.rs).map bS.ptr).getD (.pointer none)) w:=by
  have:=h.eY.look underlying3 underlying119 (LR w) hx
  rw[lK,eB]at this
  rw[this]
theorem aJ.ZG{w:World}{M:ae}(h:aJ w M){x:Int}{r:bS}(hl:aD x M.rs=some r) :
    aJ (w.setCell ⟨r.g,6,none⟩ (.int .i64 ((r.cV:Int)+1))) {M with rs:=aT x {r with cV:=r.cV+1} M.rs}∧
    ab M.fp ({M with rs:=aT x {r with cV:=r.cV+1} M.rs} :ae).fp w (w.setCell ⟨r.g,6,none⟩ (.int .i64 ((r.cV:Int)+1))):=by
  have cL:=bG hl
  have hR:=h.cI _ cL
  have u6:ab [r.g] [r.g] w (w.setCell ⟨r.g,6,none⟩ (.int .i64 ((r.cV:Int)+1))):=(ab.refl [r.g] w).setCell (p:=⟨r.g,6,none⟩) (.inl (by simp)) _
  have hX:∀k∈[r.g],cl w k=some (some 132):=by simp only[mem_singleton];rintro k rfl;exact hR.tg
  have bZ:=h.ok.rs (x,r.pl) (mem_map.2 ⟨_,cL,rfl⟩)
  refine h.Jz hl {r with cV:=r.cV+1} rfl (X:=[r.g]) (fun k hk=>by rw[mem_singleton.1 hk];simp[bS.fp]) u6 ⟨?_,hR.gB.aq u6 (cY hR.tP hX (by decide)),hR.DJ.aq u6 (cY hR.tV hX (by decide))⟩ (fun k hk=>.inl hk) (fun k hk=>.inl hk) (fun y hy=>h.mZ cL hy) ⟨bZ.2.2.1,bZ.2.2.2.1,bZ.2.2.2.2⟩
  have KB:=hR.aO.cc 6 (.int .i64 ((r.cV:Int)+1))
  simpa using KB
end
theorem Tx{w:World}{M:ae}(h:aJ w M){x:Int}{r:bS}(hm:(x,r)∈M.rs):bE w (gJ r x).A (gJ r x).n (gJ r x).b∧∀k∈ak (gJ r x).A,k∉M.fp:=by
  have hb:=h.mZ hm (x:=r.v) (by simp[bS.bytes])
  have hf:∀k∈ak r.v.A,k∉M.fp:=h.DK (by simp only[ae.bytes,mem_append,mem_flatMap];exact .inr (.inr (.inl ⟨_,hm,by simp[bS.bytes]⟩)))
  unfold gJ
  split
  · exact⟨hb.1.rd,hf⟩
  · exact⟨bE.nil _ _,by simp[ak]⟩
theorem LS(w:World)(M:ae)(h:aJ w M)(hl:M.held.length≤800000000)(UY:∀p∈M.pl.rs,p.2.cV≤4000000000000000000) :
    Calls prog 95 #[M.ptr] w fun e w'=>e=.returned (.tuple #[])∧dZ w w' M M.pl.again:=by
  have q8:w.cell? ⟨M.gs,8,none⟩=some (.map (some M.br)):=h.aO.cell 8
  have C0:=LP w M.br
  have u0:ab [] [] w (w.alloc (.cells #[.map (some M.br)] 119)):=(ab.refl [] w).alloc _
  have h0:=h.aN u0
  have Va:(cD bS.ptr M.rs).length=M.pl.rs.length:=by rw[lk];show _=(cD _ _).length;rw[lk]
  have hlen:M.pl.rs.length≤4096:=by rw[←Va,lk];exact h.JA
  have C1:=CP (w.alloc (.cells #[.map (some M.br)] 119)) w.heap.size M.br (cD bS.ptr M.rs) (aQ.new _ _ _) h0.eY (by rw[Va];omega)
  have hks:tc (cD bS.ptr M.rs)=M.pl.rs.map Prod.fst:=by
    show(cD bS.ptr M.rs).map _=(cD bS.pl M.rs).map _
    unfold cD
    simp
  rw[Va,hks]at C1
  have n7:=h.ok.n7
  have cH:=aA (Site.O3 M.pl)
  obtain⟨R,hR⟩:=bk M.pl.again
  rw[hR]at cH ⊢
  clear hR
  rw[ae.ptr]
  go_enter func95,ntmps95
  repeat' go_step
  refine C0.mono ?_;rintro e w1 ⟨rfl,rfl⟩
  repeat' first|go_step|simp only[];go_at_K
  refine C1.mono ?_;rintro e w2 ⟨A,c,rfl,ho,hu⟩
  have h2:=h0.aN hu
  have U2:=u0.trans hu
  have yT:∀k∈ak A,k∉M.fp:=fun k hk hm=>by have h1:=(ab.refl [] _).new hu k hk;have h3:=h0.lt k hm;omega
  have jX:M.pl.n=M.n:=rfl
  clear C0 C1 q8 h0
  refine wk ?_
  go_loopw [13] (fun mX wr=>∃(i:Nat)(M':ae),i≤M.pl.rs.length∧mX=.int .i64 (i:Int)∧aJ wr M'∧M'.pl=M.pl.fj i∧M'.gs=M.gs∧ab M.fp M'.fp w2 wr) (fun mX _=>M.pl.rs.length-(intOf mX).toNat)
  case atStart=>exact⟨0,M,by omega,rfl,h2,(Site.GK _).symm,rfl,ab.refl _ _⟩
  case round=>
    obtain⟨i,M',hi,rfl,h',hp,hg,U⟩:=hrel
    by_cases hlt:i<M.pl.rs.length
    · have dK:(i:Int)<(M.pl.rs.length:Int):=by omega
      have dC:=aL.wr ((i:Int)+1)
      have na:=ho.aq U yT
      obtain⟨ad,u,rfl,eC,hc⟩:=na.rd.at_ (k:=i) (by omega)
      rw[List.getElem?_map,List.getElem?_map,List.getElem?_eq_getElem hlt,Option.map_some,Option.map_some,Option.some.injEq]at eC
      subst eC
      have RD:(M.pl.fj i).rs.Pairwise fun p q=>p.1<q.1:=by
        rw[←hp]
        show(cD bS.pl M'.rs).Pairwise _
        unfold cD
        rw[pairwise_map]
        exact h'.DL
      obtain⟨hput,hlk⟩:=M.pl.Jy hlt RD
      have Vb:=UY _ (getElem_mem hlt)
      have uB:=h.ok.rs _ (getElem_mem hlt)
      have hstep:=M.pl.Jx hlt
      have hold:=M.pl.Jw hlt
      obtain⟨x,hx⟩:=bk (M.pl.rs[i].1)
      rw[←hp]at hlk hput
      obtain⟨r,hr,iE⟩:∃r,aD (M.pl.rs[i].1) M'.rs=some r∧r.pl=M.pl.rs[i].2:=by
        have:aD (M.pl.rs[i].1) (cD bS.pl M'.rs)=some M.pl.rs[i].2:=hlk
        rw[eB]at this
        obtain⟨r,h1,h2⟩:=Option.map_eq_some_iff.1 this
        exact⟨r,h1,h2⟩
      have ahq:r.cV≤4000000000000000000:=by rw[←iE]at Vb;exact Vb
      have JB:aT M.pl.rs[i].1 ({r with cV:=r.cV+1} :bS).pl M'.pl.rs=(M.pl.rs.take (i+1)).map Site.rU++M.pl.rs.drop (i+1):=by
        rw[←hput];congr 1;unfold Site.rU;rw[←iE];rfl
      rw[←iE]at hstep
      rw[hx]at hc hr uB hstep JB
      clear hput hlk RD Vb iE hx
      have eO:(Lit.int .i64 x).wf=true:=kt (by omega) (by omega)
      have JC:=h'.UT eO
      rw[hr]at JC
      simp only[Option.map_some,Option.getD_some]at JC
      have hR:=h'.cI _ (bG hr)
      obtain⟨h3,V3⟩:=h'.ZG hr
      obtain⟨M3,iN⟩:∃M3:ae,{M' with rs:=aT x {r with cV:=r.cV+1} M'.rs} =M3:=⟨_,rfl⟩
      rw[iN]at h3 V3
      have l7:(x,({r with cV:=r.cV+1} :bS))∈M3.rs:=by rw[←iN];exact ec.2 (.inl rfl)
      have fO:M3.pl= {M.pl.fj i with rs:=(M.pl.rs.take (i+1)).map Site.rU++M.pl.rs.drop (i+1)}:=by
        rw[←JB,←hp,←iN]
        unfold ae.pl
        simp only[fi]
      have hg3:M3.gs=M.gs:=by rw[←iN];exact hg
      have uC:M3.n=M.n:=congrArg Site.n fO
      have LU:M3.held.length≤900000000:=by
        rw[←ae.cE,fO]
        have:=M.pl.GL i
        rw[ae.cE]at this
        show(M.pl.fj i).held.length≤_
        omega
      have q8:wr.cell? ⟨M.gs,8,none⟩=some (.map (some M'.br)):=by rw[←hg];exact h'.aO.cell 8
      have r6:wr.cell? ⟨r.g,6,none⟩=some (.int .i64 (r.cV:Int)):=hR.aO.cell 6
      have f6:wr.frozen? ⟨r.g,6,none⟩=false:=hR.aO.frozen 6
      have hw2:=aL.wr ((r.cV:Int)+1)
      rw[bS.ptr]at JC
      have U3:=U.trans V3
      obtain⟨w3,hw3⟩:=bk (wr.setCell ⟨r.g,6,none⟩ (.int .i64 ((r.cV:Int)+1)))
      rw[hw3]at h3 U3
      clear iN hp h' V3 JB hR U
      by_cases h8:i<8
      · have d8:decide ((i:Int)<8)=true:=oT
        have KS:=aA (hstep h8)
        have C4:=te w3 _ (h3.cI _ l7) x
        have hV:=Tx h3 l7
        have eF:=Hs {r with cV:=r.cV+1} x
        have mB:(gJ {r with cV:=r.cV+1} x).ms.Fit:=by rw[eF];exact Site.iX ⟨uB.1,uB.2.1⟩ ((h3.ok.rs (x,({r with cV:=r.cV+1} :bS).pl) (mem_map.2 ⟨_,l7,rfl⟩)).2.2.2.1) ((h3.ok.rs (x,({r with cV:=r.cV+1} :bS).pl) (mem_map.2 ⟨_,l7,rfl⟩)).2.2.1)
        have C5:=fun(w4:World)(hu:ab [] [] w3 w4)=>ke w4 M3 (h3.aN hu) (gJ {r with cV:=r.cV+1} x) mB (hV.1.aq hu (by simp)) hV.2 LU
        have HA:=aA (show M3.pl.others (gJ {r with cV:=r.cV+1} x).ms M3.n=M.pl.fj (i+1) by
          rw[eF,fO,uC,←jX,←hstep h8];rfl)
        obtain⟨av,og⟩:∃z,gJ {r with cV:=r.cV+1} x=z:=⟨_,rfl⟩
        rw[og]at C4 HA
        simp only[og,ae.ptr,hg3]at C5
        simp only[bS.ptr]at C4
        obtain⟨vv,Ht⟩:∃z,av.val=z:=⟨_,rfl⟩
        rw[Ht]at C4
        simp only[Ht]at C5
        clear og mB hV eF l7 fO hstep hold h3
        repeat' go_step
        refine C4.mono ?_;rintro e w4 ⟨rfl,de⟩
        repeat' first|go_step|simp only[];go_at_K
        refine(C5 w4 de).mono ?_;rintro e w5 ⟨rfl,M5,h5,ig,lS,-,U5⟩
        refine wk ?_
        exact⟨⟨i+1,M5,by omega,by simp,h5,ig.trans HA.out,lS.trans hg3,(U3.trans (de.up M3.fp)).trans U5⟩,by simp[intOf];omega⟩
      · have d8:decide ((i:Int)<8)=false:=iO
        have HA:=aA (show M3.pl=M.pl.fj (i+1) by rw[fO,hold,if_neg h8])
        clear hstep hold fO
        refine wk ?_
        exact⟨⟨i+1,M3,by omega,by simp,h3,HA.out,hg3,U3⟩,by simp[intOf];omega⟩
    · obtain rfl:i=M.pl.rs.length:=by omega
      have dK:¬ ((M.pl.rs.length:Int)<(M.pl.rs.length:Int)):=by omega
      have bN:=aA (show dZ w wr M R from⟨M',h',hp.trans cH.out.symm,hg,(U2.up M.fp).trans U⟩)
      clear h' U hp
      refine wk ?_
      exact bodyPost_end (results_none rfl _ _ _) rfl ⟨rfl,bN.out⟩
