/- For SitePlays. -/
import Derived.Test.YtijhlbeipglieaaGreatPkSiteD
import Derived.Test.YtijhlbeipglieaaGreatPkRefA
import Derived.Test.YtijhlbeipglieaaGreatPkAct
set_option linter.all false
set_option maxRecDepth 100000
set_option maxHeartbeats 8000000
namespace aA
open Go Go.Proofs.YtijhlbeipglieaaGreat List
theorem Ar{α:Type}{p q:α→Bool} :∀{l:List α},(∀x∈l,p x=q x)→l.find? p=l.find? q
 |[],_=>rfl
 |x::l,h=>by
  rw[List.find?_cons,List.find?_cons,h x (by simp),Ar fun y hy=>h y (mem_cons_of_mem _ hy)]
theorem FJ(site n:Int):∀(k s:Nat),oI site n k s=(((range' s k).find? fun(i:Nat)=>decide ((i:Int).tmod n=site)).map fun(i:Nat)=>(i:Int)).getD (-1)
 |0,s=>rfl
 |k+1,s=>by
  unfold oI
  rw[range'_succ,List.find?_cons]
  by_cases h:(s:Int).tmod n=site
  ·rw[if_pos h,dTx h];rfl
  ·rw[if_neg h,dFx h];exact FJ site n k (s+1)
def jC(site:Int)(f:Nat)(n:Int)(i:Nat):Bool:=decide (f≤i)&&(decide (0≤site)&&decide (aV (i:Int) n=site))
theorem Ou(site:Int)(f:Nat)(n:Int)(hf:f≤4096):aZ site f n=((((List.range 4096).filter (jC site f n)).head?).map fun(i:Nat)=>(i:Int)).getD (-1):=by
 rw[List.head?_filter]
 unfold aZ
 split
 ·rename_i h
  rw[List.find?_eq_none.2]
  ·rfl
  ·intro i hi
   rw[mem_range]at hi
   unfold jC aV
   simp only[Bool.and_eq_true,decide_eq_true_eq,not_and]
   intro _ h0
   split
   ·omega
   ·rename_i hh
    have h1:(i:Int).tmod n=(i:Int) % n:=Int.tmod_eq_emod_of_nonneg (by omega)
    have h2:=Int.emod_lt_of_pos (i:Int) (show(0:Int)<n by omega)
    omega
 ·rename_i h
  rw[FJ]
  have e:List.range 4096=range' 0 f++range' f (4096-f):=by
   have:=range'_append_1 (s:=0) (m:=f) (n:=4096-f)
   rw[Nat.zero_add,Nat.add_sub_cancel' hf]at this
   rw[range_eq_range',this]
  have h0:(range' 0 f).find? (jC site f n)=none:=by
   rw[List.find?_eq_none]
   intro i hi
   rw[mem_range'_1]at hi
   unfold jC
   rw[dFx (show ¬ f≤i by omega)];simp
  rw[e,List.find?_append,h0,Option.none_or]
  ·congr 2
   refine Ar fun i hi=>?_
   rw[mem_range'_1]at hi
   unfold jC aV
   rw[if_neg (by omega),dTx (show f≤i by omega),dTx (show 0≤site by omega)]
   simp
end aA
namespace Go.Proofs.YtijhlbeipglieaaGreat
open Go.RowKit aA Go.Proofs.Tryz List
theorem yZ:(prog.info? 3).map (fun i=>(i.zero,i.size,i.bytes))=some (some (.int .i64 0),1,8):=by kernel_rfl
structure iZ(p:Prop):Prop where
 out:p
def Jb(l:List Nat):List Value:=l.map fun(i:Nat)=>.int .i64 (i:Int)
theorem Ui(w:World)(s:Int)(f:Nat)(n:Int) :
  Calls prog 206 #[.int .i64 s,.int .i64 (f:Int),.int .i64 4096,.int .i64 n] w fun e w'=>∃A c,e=.returned (.slice A ((List.range 4096).filter (jC s f n)).length c)∧
   Rd w' 1 A ((List.range 4096).filter (jC s f n)).length (Jb ((List.range 4096).filter (jC s f n)))∧aa [] [] w w':=by
 have C:=fun(w1:World)(x:Int)=>sK w1 x n
 obtain⟨L,hL⟩:=ex1 ((List.range 4096).filter (jC s f n))
 have HL:=hdn hL
 rw[hL]
 clear hL
 go_enter func206,ntmps206
 repeat' go_step
 go_loopw [9,10] (fun v9 v10 wr=>iZ (∃(i:Nat)(A:Option Addr)(c:Nat)(l:List Nat),i≤4096∧v10=.int .i64 (i:Int)∧v9=.slice A l.length c∧l=(List.range i).filter (jC s f n)∧l.length≤i∧
  aA.Own 3 1 wr A l.length c (Jb l)∧(∀k∈ah A,w.heap.size≤k)∧aa [] [] w wr)) (fun _ v10 _=>4096-(intOf v10).toNat)
 case atStart=>exact iZ.mk ⟨0,none,0,[],by omega,rfl,rfl,rfl,by simp,aA.Own.nil _ _ _,by simp[ah],aa.refl _ _⟩
 case round=>
  obtain⟨i,A,c,l,hi,rfl,rfl,hl,Ae,ho,hA,U⟩:=hrel.out
  clear hrel
  have HL2:=hdn hl
  clear hl
  obtain⟨m,hm⟩:=ex1 l.length
  have HM:=hdn hm
  rw[hm]at ho Ae ⊢
  clear hm
  by_cases hlt:i<4096
  ·have hil:decide ((i:Int)≤4095)=true:=dTo
   have Uj:decide (i≤4095)=true:=dTo
   have hw1:=aA.wr ((i:Int)+1)
   have HS:=hdn (show(List.range (i+1)).filter (jC s f n)=l++(if jC s f n i then[i] else[]) by
    rw[range_succ,filter_append,←HL2.out]
    congr 1
    cases h:jC s f n i<;>simp[h])
   have skip:jC s f n i=false→iZ (∃(j:Nat)(A':Option Addr)(c':Nat)(l':List Nat),j≤4096∧(Value.int .i64 ((i:Int)+1))=.int .i64 (j:Int)∧(Value.slice A m c)=.slice A' l'.length c'∧l'=(List.range j).filter (jC s f n)∧l'.length≤j∧
     aA.Own 3 1 wr A' l'.length c' (Jb l')∧(∀k∈ah A',w.heap.size≤k)∧aa [] [] w wr):=fun h=>iZ.mk ⟨i+1,A,c,l,by omega,by simp,by rw[HM.out],by rw[HS.out,h];simp,by rw[HM.out];omega,by rw[HM.out];exact ho,hA,U⟩
   have aj2:=hdn skip
   clear skip
   by_cases h1:f≤i
   case neg=>
    have d1:decide ((f:Int)≤(i:Int))=false:=dFo
    have d1':decide (f≤i)=false:=dFo
    refine wk ?_
    exact⟨aj2.out (by unfold jC;rw[d1'];rfl),by simp[intOf];omega⟩
   have d1:decide ((f:Int)≤(i:Int))=true:=dTo
   have d1':decide (f≤i)=true:=dTo
   have d2:decide ((i:Int)<4096)=true:=dTo
   have Wo:decide (i<4096)=true:=dTo
   by_cases h3:0≤s
   case neg=>
    have d3:decide (0≤s)=false:=dFo
    refine wk ?_
    exact⟨aj2.out (by unfold jC;rw[d3];simp),by simp[intOf];omega⟩
   have d3:decide (0≤s)=true:=dTo
   have C1:=C wr (i:Int)
   have HP:=hdn (show jC s f n i=decide (aV (i:Int) n=s) by unfold jC;rw[d1',d3];simp)
   generalize aV (i:Int) n=q at *
   repeat' first|go_guarded|go_step
   refine C1.mono ?_;rintro e w1 ⟨rfl,rfl⟩
   clear C1
   by_cases h4:q=s
   ·have t4:(q==s)=true:=by rw[h4];exact beq_self_eq_true _
    have hP:jC s f n i=true:=by rw[HP.out];exact dTx h4
    have FK:=hdn hP
    clear hP h4
    refine bN ?_
    refine bQ rfl _ _ 168 rfl 3 underlying168 yZ rfl (by decide) ho rfl wr.heap.size rfl rfl (news:=[.int .i64 (i:Int)]) rfl rfl (by unfold maxLen;omega) (by omega) ?_
    intro A6 c6 w6 iX eP
    have jH:∀k∈ah A6,w.heap.size≤k:=fun k hk=>by
     rcases eP.fresh k hk with hh|hh
     ·exact hA k hh
     ·have:=U.size;omega
    have U6:aa [] [] w w6:=U.aB hA eP
    refine wk ?_
    refine⟨iZ.mk ⟨i+1,A6,c6,l++[i],by omega,by simp,by simp[HM.out],by rw[HS.out,FK.out];rfl,by simp[HM.out];omega,?_,jH,U6⟩,by simp[intOf];omega⟩
    rw[length_append,HM.out]
    simpa[Jb]using iX
   ·have t4:(q==s)=false:=beq_false_of_ne h4
    have hP:jC s f n i=false:=by rw[HP.out];exact dFx h4
    have FK:=hdn hP
    clear hP h4
    refine wk ?_
    exact⟨aj2.out FK.out,by simp[intOf];omega⟩
  ·obtain rfl:i=4096:=by omega
   have hd:decide (((4096:Nat):Int)≤4095)=false:=by decide
   have hll:L=l:=by rw[←HL.out,HL2.out]
   have nA:=hdn hll
   clear hll
   have acy:=ho.rd
   have RES:=hdn (show ∃A' c',(Value.slice A m c)=.slice A' L.length c'∧Rd wr 1 A' L.length (Jb L) by rw[nA.out,HM.out];exact⟨A,c,rfl,acy⟩)
   clear ho acy
   refine wk ?_
   go_ret
   obtain⟨A',c',e1,e2⟩:=RES.out
   exact⟨A',c',congrArg Ending.returned e1,e2,U⟩
theorem za(w:World)(s:Int)(f:Nat)(n:Int)(hf:f≤4096):Calls prog 133 #[.int .i64 s,.int .i64 (f:Int),.int .i64 n] w fun e w'=>e=.returned (.int .i64 (aZ s f n))∧aa [] [] w w':=by
 have HN:=hdn (Ou s f n hf)
 have C:=Ui w s f n
 generalize (List.range 4096).filter (jC s f n)=L at *
 go_enter func133,ntmps133
 repeat' go_step
 refine C.mono ?_;rintro e w1 ⟨A,c,rfl,hr,U⟩
 clear C
 cases L with
 |nil=>
  simp only[length_nil]
  refine wk ?_
  go_ret
  exact⟨by rw[HN.out];rfl,U⟩
 |cons i L=>
  obtain⟨ad,rfl,hc⟩:=hr.2 (by simp)
  have e0:ad.add 0=ad:=by cases ad;unfold Addr.add;split<;>simp_all
  have h0:=hc 0 (.int .i64 (i:Int)) rfl
  rw[e0]at h0
  clear e0
  have hm:((0:Int)<((i::L).length:Int)):=by simp only[length_cons];omega
  have t0:(((i::L).length:Int)==0)=false:=beq_false_of_ne (by simp only[length_cons];omega)
  have t1:((i::L).length==0)=false:=rfl
  obtain⟨m,hm'⟩:∃m,(i::L).length=m:=⟨_,rfl⟩
  rw[hm']at hm t0 t1 ⊢
  clear hm' hc hr
  refine wk ?_
  go_ret
  exact⟨by rw[HN.out];rfl,U⟩
theorem Jc(w:World)(A:Option Addr)(c:Nat)(vt:List (Int × Bl))(h:bR jg 3 w A vt.length vt)(hl:vt.length≤1000000000)(b:Bl)(n:Nat)(hn:1≤n∧n≤1000) :
  Calls prog 262 #[.slice A vt.length c,b.val,.int .i64 (n:Int)] w fun e w'=>e=.returned (.bool (Site.most vt b n))∧aa [] [] w w':=by
 obtain⟨W,H,eW,hH,hB,U0⟩:=az w 30 #[.int .i64 b.r,.int .i64 b.s]
 have dm:=U0.g0
 obtain⟨⟨b0,b1⟩,-⟩:=hB.c2
 have acy:=h.au U0
 have C:=fun(w1:World)(A1:Option Addr)(c1:Nat)(l:List Int)=>FL w1 A1 c1 l n hn
 obtain⟨F,hF⟩:=ex1 (Site.most vt b n)
 have HF:=hdn hF
 rw[hF,Bl.val]
 clear hF
 go_enter func262,ntmps262
 repeat' go_step
 go_loopw [7,8] (fun v7 v8 wr=>iZ (∃(i:Nat)(B:Option Addr)(d:Nat)(l:List Int),i≤vt.length∧v8=.int .i64 (i:Int)∧v7=.slice B l.length d∧l=((vt.take i).filter fun v=>decide (v.2=b)).map Prod.fst∧l.length≤i∧
  aA.Own 3 1 wr B l.length d (l.map (Value.int .i64))∧(∀k∈ah B,W.heap.size≤k)∧aa [] [] W wr)) (fun _ v8 _=>vt.length-(intOf v8).toNat)
 case atStart=>exact iZ.mk ⟨0,none,0,[],by omega,rfl,rfl,rfl,by simp,aA.Own.nil _ _ _,by simp[ah],aa.refl _ _⟩
 case round=>
  obtain⟨i,B,d,l,hi,rfl,rfl,hll,Ae,ho,hA,U⟩:=hrel.out
  clear hrel
  have HL2:=hdn hll
  clear hll
  obtain⟨m,hm⟩:=ex1 l.length
  have HM:=hdn hm
  rw[hm]at ho Ae ⊢
  clear hm
  by_cases hlt:i<vt.length
  ·have hil:(i:Int)<(vt.length:Int):=by omega
   have hw1:=aA.wr ((i:Int)+1)
   obtain⟨ad,rfl,h0,hj⟩:=bR.at_ (f:=jg) (s:=3) (fun _=>rfl) acy hlt
   have HS:=hdn (show((vt.take (i+1)).filter fun v=>decide (v.2=b)).map Prod.fst=l++(if vt[i].2=b then[vt[i].1] else[]) by
    rw[take_succ_eq_append_getElem hlt,filter_append,map_append,←HL2.out]
    congr 1
    by_cases e:vt[i].2=b<;>simp[e])
   generalize vt[i]=y at *
   have d0:=h0 _ rfl
   have d1:=hj 1 _ (by omega) rfl
   have d2:=hj 2 _ (by omega) rfl
   clear h0 hj
   have E1:=mR y.2.r y.2.s b.r b.s
   have c0:=fun N=>(U.drewN N).cell d0 (by simp)
   have c1:=fun N=>(U.drewN N).cell d1 (by simp)
   have c2:=fun N=>(U.drewN N).cell d2 (by simp)
   have c3:=fun N=>(U.drewN N).cell b0 (by simp)
   have c4:=fun N=>(U.drewN N).cell b1 (by simp)
   have HE:=hdn (show((y.2.r==b.r)&&(y.2.s==b.s))=true ↔ y.2=b by
    simp only[Bool.and_eq_true,beq_iff_eq]
    constructor
    ·rintro⟨e1,e2⟩;cases hy2:y.2;cases b;simp_all
    ·rintro rfl;exact⟨rfl,rfl⟩)
   generalize ((y.2.r==b.r)&&(y.2.s==b.s))=E at *
   clear d0 d1 d2
   repeat' go_step
   cases E with
   |false=>
    have hne:¬ y.2=b:=fun e=>by have:=HE.out.2 e;cases this
    have HN:=hdn hne
    clear hne
    go_quiet (fail)
    clear c0 c1 c2 c3 c4
    refine bN ?_
    exact⟨iZ.mk ⟨i+1,B,d,l,by omega,by simp,by rw[HM.out],by rw[HS.out,if_neg HN.out,append_nil],by rw[HM.out];omega,by rw[HM.out];exact ho.drewN _,hA,U.drewN _⟩,by simp[intOf];omega⟩
   |true=>
    have heq:y.2=b:=HE.out.1 rfl
    have HN:=hdn heq
    clear heq
    go_quiet (fail)
    clear c1 c2 c3 c4
    refine bN ?_
    refine bQ rfl _ _ 168 rfl 3 underlying168 yZ rfl (by decide) (ho.drewN nq) rfl (wr.drewN nq).heap.size rfl rfl (news:=[.int .i64 y.1]) rfl rfl (by unfold maxLen;omega) (by omega) ?_
    intro A6 c6 w6 iX eP
    have jH:∀k∈ah A6,W.heap.size≤k:=fun k hk=>by
     rcases eP.fresh k hk with hh|hh
     ·exact hA k hh
     ·have:=(U.drewN nq).size;omega
    have U6:aa [] [] W w6:=(U.drewN nq).aB hA eP
    clear c0
    refine wk ?_
    refine⟨iZ.mk ⟨i+1,A6,c6,l++[y.1],by omega,by simp,by simp[HM.out],by rw[HS.out,if_pos HN.out],by simp[HM.out];omega,?_,jH,U6⟩,by simp[intOf];omega⟩
    rw[length_append,HM.out]
    simpa using iX
  ·obtain rfl:i=vt.length:=by omega
   have hil:¬ ((vt.length:Int)<(vt.length:Int)):=by omega
   have C1:=C wr B d l (by rw[HM.out];exact ho.rd) (by rw[HM.out];omega)
   have dQ:fU l n=F:=by rw[←HF.out,HL2.out,take_length];rfl
   rw[HM.out,dQ]at C1
   clear dQ
   repeat' go_step
   refine C1.mono ?_;rintro e w1 ⟨rfl,u1⟩
   clear C1
   refine wk ?_
   go_ret
   exact⟨rfl,(dm.trans U).trans u1⟩
def ou(n:Int)(b:Option bq)(p:bq):Option bq:=if p.so&&bz p.f n&&(match b with|none=>true|some q=>decide (0<bg p.at_ q.at_))then some p else b
def iE(n:Int)(l:List bq):Option bq:=l.foldl (ou n) none
theorem ML(B:Bool)(p:bq)(b:Option bq):(if B then some p else b).map bq.pl=if B then some p.pl else b.map bq.pl:=by cases B<;>rfl
theorem Jd(n:Int):∀(l:List bq)(b:Option bq),(l.foldl (ou n) b).map bq.pl=(l.map bq.pl).foldl (fun b p=>if p.so&&bz p.f n&&(match b with|none=>true|some q=>decide (0<bg p.at_ q.at_))then some p else b) (b.map bq.pl)
 |[],b=>rfl
 |p::l,b=>by
  rw[foldl_cons,map_cons,foldl_cons,Jd n l]
  congr 1
  unfold ou
  cases b with
  |none=>exact ML _ p none
  |some q=>exact ML _ p (some q)
def xE(l:List bq)(n:Int):Option aM:=if fU (l.map bq.f) n then some (((iE n l).map bq.s).getD ⟨none,0,0,[]⟩)else none
theorem Ye(l:List bq)(n:Int):(xE l n).map aM.b=gZ (l.map bq.pl) n:=by
 unfold xE gZ
 have e:(l.map bq.pl).map Pm.f=l.map bq.f:=by rw[map_map];rfl
 rw[e]
 have h:(iE n l).map bq.pl=pz n (l.map bq.pl):=Jd n l none
 split
 ·rw[Option.map_some,←h]
  cases iE n l<;>rfl
 ·rfl
theorem Li(w:World)(A:Option Addr)(c:Nat)(l:List bq)(h:bR bq.cells 5 w A l.length l)(hl:l.length≤1000000000)(n:Nat)(hn:1≤n∧n≤1000) :
  Calls prog 261 #[.slice A l.length c,.int .i64 (n:Int)] w fun e w'=>e=.returned (.tuple #[((xE l n).getD ⟨none,0,0,[]⟩).val,.bool (xE l n).isSome])∧aa [] [] w w':=by
 have C:=fun(w1:World)(A1:Option Addr)(c1:Nat)(l:List Int)=>FL w1 A1 c1 l n hn
 obtain⟨F,hF⟩:=ex1 (xE l n)
 have HF:=hdn hF
 rw[hF]
 clear hF
 go_enter func261,ntmps261
 repeat' go_step
 go_loopw [6,7,8] (fun v6 v7 v8 wr=>iZ (∃(i:Nat)(B:Option Addr)(d:Nat)(bi:Int),i≤l.length∧v8=.int .i64 (i:Int)∧v6=.slice B i d∧v7=.int .i64 bi∧
  aA.Own 3 1 wr B i d ((l.take i).map fun p=>.int .i64 p.f)∧(∀k∈ah B,w.heap.size≤k)∧(bi= -1∧iE n (l.take i)=none∨∃(j:Nat)(hj:j<l.length),bi=(j:Int)∧iE n (l.take i)=some l[j])∧aa [] [] w wr)) (fun _ _ v8 _=>l.length-(intOf v8).toNat)
 case atStart=>exact iZ.mk ⟨0,none,0,-1,by omega,rfl,rfl,rfl,aA.Own.nil _ _ _,by simp[ah],.inl ⟨rfl,rfl⟩,aa.refl _ _⟩
 case round=>
  obtain⟨i,B,d,bi,hi,rfl,rfl,rfl,ho,hA,hbi,U⟩:=hrel.out
  clear hrel
  by_cases hlt:i<l.length
  ·have hil:(i:Int)<(l.length:Int):=by omega
   have hw1:=aA.wr ((i:Int)+1)
   obtain⟨ad,rfl,h0,hj⟩:=bR.at_ (f:=bq.cells) (s:=5) (fun _=>rfl) (h.au U) hlt
   have HS:=hdn (show iE n (l.take (i+1))=ou n (iE n (l.take i)) l[i] by
    unfold iE
    rw[take_succ_eq_append_getElem hlt,foldl_append];rfl)
   have HO:=hdn (show(l.take (i+1)).map (fun p=>Value.int .i64 p.f)=(l.take i).map (fun p=>Value.int .i64 p.f)++[.int .i64 l[i].f] by
    rw[take_succ_eq_append_getElem hlt,map_append];rfl)
   have HY:=hdn (show ∃hj:i<l.length,l[i]=l[i] from⟨hlt,rfl⟩)
   obtain⟨y,hy⟩:=ex1 (l[i])
   have MM:=hdn hy
   rw[hy]at h0 hj HS HO
   clear hy
   have d0:=h0 _ rfl
   have d1:=hj 1 _ (by omega) rfl
   have d2:=hj 2 _ (by omega) rfl
   have d3:=hj 3 _ (by omega) rfl
   clear h0 hj
   repeat' (fail_if_success with_reducible refine Ag rfl ?_);go_step
   refine bQ rfl _ _ 168 rfl 3 underlying168 yZ rfl (by decide) ho rfl wr.heap.size rfl rfl (news:=[.int .i64 y.f]) rfl rfl (by unfold maxLen;omega) (by omega) ?_
   intro A6 c6 w6 iX eP
   have jH:∀k∈ah A6,w.heap.size≤k:=fun k hk=>by
    rcases eP.fresh k hk with hh|hh
    ·exact hA k hh
    ·have:=U.size;omega
   have U6:aa [] [] w w6:=U.aB hA eP
   have h6:=h.au U6
   obtain⟨PG,e',g0,gj⟩:=bR.at_ (f:=bq.cells) (s:=5) (fun _=>rfl) h6 hlt
   obtain rfl:ad=PG:=by injection e'
   rw[MM.out]at g0 gj
   have c0:∀p:GU w6,p.w.cell? (ad.add (i*5))=some (.int .i64 y.f):=fun p=>p.u.cell (g0 _ rfl) (by simp)
   have c1:∀p:GU w6,p.w.cell? ⟨(ad.add (i*5)).block,(ad.add (i*5)).off+1,none⟩=some (.bool y.so):=fun p=>p.u.cell (gj 1 _ (by omega) rfl) (by simp)
   have c2:∀p:GU w6,p.w.cell? ⟨(ad.add (i*5)).block,(ad.add (i*5)).off+2,none⟩=some (.int .i64 y.at_.r):=fun p=>p.u.cell (gj 2 _ (by omega) rfl) (by simp)
   have c3:∀p:GU w6,p.w.cell? ⟨(ad.add (i*5)).block,(ad.add (i*5)).off+3,none⟩=some (.int .i64 y.at_.s):=fun p=>p.u.cell (gj 3 _ (by omega) rfl) (by simp)
   have CS:∀p:GU w6,Calls prog 132 #[.int .i64 y.f,.int .i64 (n:Int)] p.w fun e w'=>e=.returned (.bool (bz y.f n))∧∃q:GU w6,w'=q.w:=
    fun p=>p.call ((oU _ y.f n).mono fun _ _ ⟨h1,h2⟩=>⟨h1,h2▸aa.refl _ _⟩)
   have ahK:iE n (l.take (i+1))=iE n (l.take i)→(bi= -1∧iE n (l.take (i+1))=none∨∃(j:Nat)(hj:j<l.length),bi=(j:Int)∧iE n (l.take (i+1))=some l[j]):=fun e=>by rw[e];exact hbi
   have adP:=hdn ahK
   have KO:=hdn (show aA.Own 3 1 w6 A6 (i+1) c6 ((l.take (i+1)).map fun p=>.int .i64 p.f) by rw[HO.out];simpa using iX)
   clear ahK d0 d1 d2 d3 g0 gj ho iX eP e' h6
   repeat' go_step
   cases hso:y.so with
   |false=>
    have hK:iE n (l.take (i+1))=iE n (l.take i):=by rw[HS.out,ou.eq_def,hso];rfl
    have HK:=hdn hK
    rw[hso]at c1
    clear hK hso hbi
    refine dx (by kernel_rfl) (by kernel_rfl) ?_
    repeat (go_big_quiet_step (fail))
    refine wpQuiet_nil ?_
    rintro _ ⟨p,rfl⟩
    clear c0 c1 c2 c3 CS
    refine wk ?_
    exact⟨iZ.mk ⟨i+1,A6,c6,bi,by omega,by simp,by simp,rfl,KO.out.upd p.u (by simp),jH,adP.out HK.out,U6.trans p.u⟩,by simp[intOf];omega⟩
   |true=>
    rw[hso]at c1
    cases hst:bz y.f n with
    |false=>
     have hK:iE n (l.take (i+1))=iE n (l.take i):=by rw[HS.out,ou.eq_def,hst];simp
     have HK:=hdn hK
     rw[hst]at CS
     clear hK hso hbi hst
     refine dx (by kernel_rfl) (by kernel_rfl) ?_
     repeat (go_big_quiet_step (exact CS _))
     refine wpQuiet_nil ?_
     rintro _ ⟨p,rfl⟩
     clear c0 c1 c2 c3 CS
     refine wk ?_
     exact⟨iZ.mk ⟨i+1,A6,c6,bi,by omega,by simp,by simp,rfl,KO.out.upd p.u (by simp),jH,adP.out HK.out,U6.trans p.u⟩,by simp[intOf];omega⟩
    |true=>
     rw[hst]at CS
     rcases hbi with⟨rfl,hb⟩|⟨j,hj,rfl,hb⟩
     ·have hK:iE n (l.take (i+1))=some y:=by rw[HS.out,ou.eq_def,hst,hso,hb];rfl
      have HK:=hdn hK
      clear hK hso hst hb adP
      refine dx (by kernel_rfl) (by kernel_rfl) ?_
      repeat (go_big_quiet_step (exact CS _))
      refine wpQuiet_nil ?_
      rintro _ ⟨p,rfl⟩
      clear c0 c1 c2 c3 CS
      refine wk ?_
      exact⟨iZ.mk ⟨i+1,A6,c6,(i:Int),by omega,by simp,by simp,rfl,KO.out.upd p.u (by simp),jH,.inr ⟨i,hlt,rfl,by rw[HK.out,MM.out]⟩,U6.trans p.u⟩,by simp[intOf];omega⟩
     ·obtain⟨ZN,e2,g0,gj⟩:=bR.at_ (f:=bq.cells) (s:=5) (fun _=>rfl) (h.au U6) hj
      obtain rfl:ad=ZN:=by injection e2
      have HJ:=hdn hj
      obtain⟨z,hz,gj,hb⟩:∃z,l[j]=z∧(∀k u,0<k→(bq.cells z)[k]? =some u→w6.cell? ⟨(ad.add (j*5)).block,(ad.add (j*5)).off+k,none⟩=some u)∧iE n (l.take i)=some z:=⟨_,rfl,gj,hb⟩
      have HZ:=hdn hz
      clear hz e2 g0
      have e2:∀p:GU w6,p.w.cell? ⟨(ad.add (j*5)).block,(ad.add (j*5)).off+2,none⟩=some (.int .i64 z.at_.r):=fun p=>p.u.cell (gj 2 _ (by omega) rfl) (by simp)
      have e3:∀p:GU w6,p.w.cell? ⟨(ad.add (j*5)).block,(ad.add (j*5)).off+3,none⟩=some (.int .i64 z.at_.s):=fun p=>p.u.cell (gj 3 _ (by omega) rfl) (by simp)
      have CC:∀p:GU w6,Calls prog 27 #[.agg #[.int .i64 y.at_.r,.int .i64 y.at_.s],.agg #[.int .i64 z.at_.r,.int .i64 z.at_.s]] p.w fun e w'=>e=.returned (.int .i64 (bg y.at_ z.at_))∧∃q:GU w6,w'=q.w:=
       fun p=>p.call (mD _ y.at_ z.at_)
      have hjl:(j:Int)<(l.length:Int):=by omega
      have t0:decide ((j:Int)<0)=false:=dFo
      have hK:iE n (l.take (i+1))=if 0<bg y.at_ z.at_ then some y else some z:=by rw[HS.out,ou.eq_def,hst,hso,hb];simp
      have HK:=hdn hK
      have HB:=hdn hb
      clear hK hso hst hb gj
      generalize bg y.at_ z.at_=q at *
      by_cases hq:0<q
      ·have tq:decide (0<q)=true:=dTx hq
       refine dx (by kernel_rfl) (by kernel_rfl) ?_
       repeat (go_big_quiet_step (first|exact CS _|exact CC _))
       refine wpQuiet_nil ?_
       rintro _ ⟨p,rfl⟩
       clear c0 c1 c2 c3 CS CC e2 e3
       refine wk ?_
       exact⟨iZ.mk ⟨i+1,A6,c6,(i:Int),by omega,by simp,by simp,rfl,KO.out.upd p.u (by simp),jH,.inr ⟨i,hlt,rfl,by rw[HK.out,if_pos hq,MM.out]⟩,U6.trans p.u⟩,by simp[intOf];omega⟩
      ·have tq:decide (0<q)=false:=dFx hq
       refine dx (by kernel_rfl) (by kernel_rfl) ?_
       repeat (go_big_quiet_step (first|exact CS _|exact CC _))
       refine wpQuiet_nil ?_
       rintro _ ⟨p,rfl⟩
       clear c0 c1 c2 c3 CS CC e2 e3
       refine wk ?_
       exact⟨iZ.mk ⟨i+1,A6,c6,(j:Int),by omega,by simp,by simp,rfl,KO.out.upd p.u (by simp),jH,adP.out (by rw[HK.out,if_neg hq,HB.out]),U6.trans p.u⟩,by simp[intOf];omega⟩
  ·obtain rfl:i=l.length:=by omega
   have hil:¬ ((l.length:Int)<(l.length:Int)):=by omega
   have agk:(l.take l.length).map (fun p=>Value.int .i64 p.f)=(l.map bq.f).map (Value.int .i64):=by rw[take_length,map_map];rfl
   have hrd:=ho.rd
   rw[agk]at hrd
   have C1:=C wr B d (l.map bq.f) (by rw[length_map];exact hrd) (by rw[length_map];omega)
   rw[length_map]at C1
   have ZO:=hdn (show F=if fU (l.map bq.f) n then some (((iE n l).map bq.s).getD ⟨none,0,0,[]⟩)else none from HF.out.symm)
   rw[take_length]at hbi
   generalize fU (l.map bq.f) n=q at *
   clear ho hrd agk
   repeat' go_step
   refine C1.mono ?_;rintro e w1 ⟨rfl,u1⟩
   clear C1
   cases q with
   |false=>
    have dQ:F=none:=ZO.out
    subst dQ
    refine wk ?_
    go_ret2
    exact⟨rfl,U.trans u1⟩
   |true=>
    rcases hbi with⟨rfl,hb⟩|⟨j,hj,rfl,hb⟩
    ·have dQ:F=some ⟨none,0,0,[]⟩:=by rw[ZO.out,hb];rfl
     subst dQ
     clear hb
     refine wk ?_
     go_ret2
     exact⟨rfl,U.trans u1⟩
    ·obtain⟨ZN,e2,g0,gj⟩:=bR.at_ (f:=bq.cells) (s:=5) (fun _=>rfl) (h.au (U.trans u1)) hj
     subst e2
     have hjl:(j:Int)<(l.length:Int):=by omega
     have t0:decide ((j:Int)<0)=false:=dFo
     obtain⟨z,hz⟩:=ex1 (l[j])
     rw[hz]at gj hb
     have g4:=gj 4 _ (by omega) rfl
     unfold aM.val at g4
     have dQ:F=some z.s:=by rw[ZO.out,hb];rfl
     subst dQ
     clear hb g0 gj hz
     refine wk ?_
     go_ret2
     exact⟨rfl,U.trans u1⟩
open Go.Maps
structure uV(w:World)(A:Option Addr)(l:List aM):Prop where
 row:Rd w 1 A l.length (l.map aM.val)
 each:∀x∈l,aD w x.A x.n x.b
theorem uV.au{w w':World}{A:Option Addr}{l:List aM}{b:List Nat}(h:uV w A l)(hu:aa [] b w w'):uV w' A l:=⟨h.row.upd hu,fun x hx=>(h.each x hx).upd hu⟩
theorem uV.take{w:World}{A:Option Addr}{l:List aM}(h:uV w A l){n:Nat}(hn:n≤l.length):uV w A (l.take n):=by
 refine⟨?_,fun x hx=>h.each x (mem_of_mem_take hx)⟩
 have:=Rd.take (k:=n) h.row hn
 rw[Nat.mul_one,←map_take]at this
 rw[length_take,Nat.min_eq_left hn]
 exact this
theorem pM.rdr{w:World}{A:Option Addr}{c:Nat}{l:List aM}(h:pM w A c l):uV w A l:=⟨h.own.rd,fun x hx=>(h.each x hx).rd⟩
structure Ov(p:Prop):Prop where
 out:p
theorem uV.at_{w:World}{A:Option Addr}{l:List aM}(h:uV w A l){i:Nat}(hi:i<l.length):∃ad,A=some ad∧w.cell? (ad.add i)=some l[i].val∧aD w l[i].A l[i].n l[i].b:=by
 obtain⟨ad,hA,hc⟩:=h.row.2 (by omega)
 exact⟨ad,hA,hc i _ (by rw[List.getElem?_map,List.getElem?_eq_getElem hi];rfl),h.each _ (getElem_mem hi)⟩
theorem Pk(w:World)(A B:Option Addr)(c d:Nat)(l r:List aM)(hl:uV w A l)(hr:uV w B r)(hb:l.length≤1099511627776) :
  Calls prog 42 #[.slice A l.length c,.slice B r.length d] w fun e w'=>e=.returned (.bool (l.map aM.b==r.map aM.b))∧aa [] [] w w':=by
 obtain⟨F,hF⟩:=ex1 ((l.map aM.b==r.map aM.b))
 have HF:=hdn hF
 rw[hF]
 clear hF
 obtain⟨m,hm⟩:=ex1 r.length
 have HM:=hdn hm
 rw[hm]
 clear hm
 go_enter func42,ntmps42
 by_cases hlen:l.length=m
 case neg=>
  have d1:((l.length:Int) != (m:Int))=true:=by simp only[bne_iff_ne];omega
  have d2:(l.length != m)=true:=by simp only[bne_iff_ne];exact hlen
  have hFf:F=false:=by
   rw[←HF.out,beq_eq_false_iff_ne]
   intro e
   have:=congrArg length e
   rw[length_map,length_map,HM.out]at this
   exact hlen this
  subst hFf
  refine wk ?_
  go_ret
  exact⟨rfl,aa.refl _ _⟩
 subst hlen
 have n1:((l.length:Int) != (l.length:Int))=false:=bne_self_eq_false _
 have n2:(l.length != l.length)=false:=bne_self_eq_false _
 repeat' go_step
 go_loopw [5] (fun v5 wr=>Ov (∃i:Nat,i≤l.length∧v5=.int .i64 (i:Int)∧((l.drop i).map aM.b==(r.drop i).map aM.b)=F∧aa [] [] w wr)) (fun v5 _=>l.length-(intOf v5).toNat)
 case atStart=>exact Ov.mk ⟨0,by omega,rfl,HF.out,aa.refl _ _⟩
 case round=>
  obtain⟨i,hi,rfl,hd,U⟩:=hrel.out
  clear hrel
  have HD:=hdn hd
  clear hd
  by_cases hlt:i<l.length
  ·have hil:(i:Int)<(l.length:Int):=by omega
   have hw1:=aA.wr ((i:Int)+1)
   have hrt:i<r.length:=by rw[HM.out];exact hlt
   obtain⟨ad,rfl,cx,hx⟩:=(hl.au U).at_ hlt
   obtain⟨bd,rfl,cy,hy⟩:=(hr.au U).at_ hrt
   have HS:=hdn (show((l.drop i).map aM.b==(r.drop i).map aM.b)=((l[i].b==r[i].b)&&((l.drop (i+1)).map aM.b==(r.drop (i+1)).map aM.b)) by
    rw[drop_eq_getElem_cons hlt,drop_eq_getElem_cons hrt,map_cons,map_cons,cons_beq_cons])
   generalize l[i]=x at *
   generalize r[i]=y at *
   unfold aM.val at cx cy
   have c1:=fun N=>((aa.refl [] wr).drewN N).cell cx (by simp)
   have c2:=fun N=>((aa.refl [] wr).drewN N).cell cy (by simp)
   have s1:=fun N=>strOf (hx.drewN N) x.c
   have s2:=fun N=>strOf (hy.drewN N) y.c
   clear cx cy hx hy hrt
   repeat' go_step
   cases t2:(x.b==y.b) with
   |true=>
    have t3:(x.b != y.b)=false:=by unfold bne;rw[t2];rfl
    go_quiet (fail)
    clear s1 s2 c1 c2
    refine wk ?_
    refine⟨Ov.mk ⟨i+1,by omega,by simp,?_,U.drewN _⟩,by simp[intOf];omega⟩
    have:=HS.out
    rw[t2,HD.out,Bool.true_and]at this
    exact this.symm
   |false=>
    have t3:(x.b != y.b)=true:=by unfold bne;rw[t2];rfl
    go_quiet (fail)
    clear s1 s2 c1 c2
    refine wk ?_
    go_ret
    have:=HS.out
    rw[t2,HD.out,Bool.false_and]at this
    exact⟨by rw[this];rfl,U.drewN _⟩
  ·obtain rfl:i=l.length:=by omega
   have hil:¬ ((l.length:Int)<(l.length:Int)):=by omega
   have hFt:F=true:=by rw[←HD.out,drop_length,show r.drop l.length= []from drop_eq_nil_of_le (by rw[HM.out];exact Nat.le_refl _)];rfl
   subst hFt
   refine wk ?_
   go_ret
   exact⟨rfl,U⟩
theorem QL:(prog.info? 309).map (fun i=>(i.zero,i.size,i.bytes))=some (some (.agg #[.int .i64 0,.slice none 0 0]),2,32):=by kernel_rfl
def oL(L:List (Int × aM))(x:Int)(V:aM):List (Int × aM) × Int:=
 if x<0∨4095<x∨2048<V.n then(L,1)else match dX L x with
 |some y=>if y.b=V.b then(L,0) else(L,7)
 |none=>(L++[(x,V)],0)
theorem Uk(w:World)(A:Option Addr)(c:Nat)(L:List (Int × aM))(h:bR jh 2 w A L.length L)(hb:∀p∈L,aD w p.2.A p.2.n p.2.b)(hl:L.length<1000000000)(x:Int)(V:aM)(hV:aD w V.A V.n V.b) :
  Calls prog 259 #[.slice A L.length c,.int .i64 x,.slice V.A V.n V.c] w fun e w'=>∃A' c',e=.returned (.tuple #[.slice A' (oL L x V).1.length c',.int .i64 (oL L x V).2])∧
   bR jh 2 w' A' (oL L x V).1.length (oL L x V).1∧(A'=A∧(oL L x V).1=L∨∀k∈ah A',w.heap.size≤k)∧aa [] [] w w':=by
 have HP:=hdn (oL.eq_def L x V)
 have C:=xD w A c L h (by omega) x
 obtain⟨R,hR⟩:=ex1 (dX L x)
 have HR:=hdn hR
 rw[hR]at C HP
 clear hR
 obtain⟨P,hP⟩:=ex1 (oL L x V)
 rw[hP]at HP ⊢
 have bad:∀code:Int,P=(L,code)→(∃A' c',(Value.tuple #[.slice A L.length c,.int .i64 code])=.tuple #[.slice A' P.1.length c',.int .i64 P.2]∧bR jh 2 w A' P.1.length P.1∧(A'=A∧P.1=L∨∀k∈ah A',w.heap.size≤k)∧aa [] [] w w):=by
  rintro code rfl
  exact⟨A,c,rfl,h,.inl ⟨rfl,rfl⟩,aa.refl _ _⟩
 have Au:=hdn bad
 clear bad hP
 have adu:∀u∈L.flatMap jh,u.oneCell'=true:=fun u hu=>by
  obtain⟨y,-,hu⟩:=mem_flatMap.1 hu
  simp only[jh,mem_cons,not_mem_nil,or_false]at hu
  rcases hu with rfl|rfl<;>rfl
 have acy:=h.rd
 obtain⟨m,hm⟩:=ex1 L.length
 have HM:=hdn hm
 rw[hm]at acy C hl ⊢
 rw[hm]at Au
 clear hm
 go_enter func259,ntmps259
 by_cases h1:x<0
 ·have d1:decide (x<0)=true:=dTx h1
  refine wk ?_
  go_ret2
  obtain⟨A',c',e1,e2⟩:=Au.out 1 (by rw[HP.out,if_pos (.inl h1)])
  exact⟨A',c',congrArg Ending.returned e1,e2⟩
 have d1:decide (x<0)=false:=dFx h1
 by_cases h2:4095<x
 ·have d2:decide (4095<x)=true:=dTx h2
  refine wk ?_
  go_ret2
  obtain⟨A',c',e1,e2⟩:=Au.out 1 (by rw[HP.out,if_pos (.inr (.inl h2))])
  exact⟨A',c',congrArg Ending.returned e1,e2⟩
 have d2:decide (4095<x)=false:=dFx h2
 by_cases h3:2048<V.n
 ·have d3:decide ((2048:Int)<(V.n:Int))=true:=dTo
  have d3':decide (2048<V.n)=true:=dTo
  refine wk ?_
  go_ret2
  obtain⟨A',c',e1,e2⟩:=Au.out 1 (by rw[HP.out,if_pos (.inr (.inr h3))])
  exact⟨A',c',congrArg Ending.returned e1,e2⟩
 have d3:decide ((2048:Int)<(V.n:Int))=false:=dFo
 have d3':decide (2048<V.n)=false:=dFo
 have HP2:=hdn (HP.out.trans (if_neg (by omega)))
 repeat' first|go_guarded|go_step
 refine C.mono ?_;rintro e w1 ⟨rfl,rfl⟩
 clear C
 cases R with
 |some y=>
  have hy:=HR.out
  have Fs:=hb _ (qB hy)
  have s1:=strOf Fs y.c
  have s2:=strOf hV V.c
  have MN:=hdn (show P=if y.b=V.b then(L,0) else(L,7)from HP2.out)
  clear hy Fs hb
  simp only[pI]
  by_cases hq:y.b=V.b
  ·have t1:(y.b != V.b)=false:=by rw[hq];exact bne_self_eq_false _
   have t0:(y.b==V.b)=true:=by rw[hq];exact beq_self_eq_true _
   have HQ:=hdn hq
   clear hq
   refine wk ?_
   go_ret2
   obtain⟨A',c',e1,e2⟩:=Au.out 0 (by rw[MN.out,if_pos HQ.out])
   exact⟨A',c',congrArg Ending.returned e1,e2⟩
  ·have t1:(y.b != V.b)=true:=by simp only[bne_iff_ne];exact hq
   have t0:(y.b==V.b)=false:=beq_false_of_ne hq
   refine wk ?_
   go_ret2
   obtain⟨A',c',e1,e2⟩:=Au.out 7 (by rw[MN.out,if_neg hq])
   exact⟨A',c',congrArg Ending.returned e1,e2⟩
 |none=>
  have MN:=hdn (show P=(L++[(x,V)],0)from HP2.out)
  simp only[pI]
  have hr0:=Rd.alloc acy (.cells #[] 309)
  repeat' (fail_if_success with_reducible refine Ag rfl ?_);first|go_skip|go_step
  refine gT _ rfl _ _ 57 rfl 309 underlying57 QL rfl (by decide) (Own.made 309 2 w) rfl hr0 rfl adu (by unfold maxLen;omega) (by omega) ?_
  intro A4 c4 W4 bY bM
  rw[Nat.zero_add,nil_append]at bY
  have qf:∀k∈ah A4,w.heap.size≤k:=fun k hk=>by
   rcases bM.fresh k hk with hh|hh
   ·simp only[ah,mem_singleton]at hh;omega
   ·simp at hh;omega
  have uf:aa [] [] w W4:=(((aa.refl [] w).alloc (.cells #[] 309)).gives (b':=[]) (by simp)).aB (X:=ah (some ⟨w.heap.size,0,none⟩)) (by simp only[ah,mem_singleton];rintro k rfl;omega) bM
  clear bM
  repeat' (fail_if_success with_reducible refine Ag rfl ?_);go_step
  refine bQ rfl _ _ 57 rfl 309 underlying57 QL rfl (by decide) bY rfl W4.heap.size rfl rfl (news:=jh (x,V)) rfl rfl (by unfold maxLen;omega) (by omega) ?_
  intro A5 c5 W5 dB bD
  have xX:∀k∈ah A5,w.heap.size≤k:=fun k hk=>by
   rcases bD.fresh k hk with hh|hh
   ·exact qf k hh
   ·have:=uf.size;omega
  have qQ:aa [] [] w W5:=uf.aB qf bD
  refine wk ?_
  go_ret2
  have el:P.1.length=m+1:=by rw[MN.out];simp[HM.out]
  have e1:(Value.tuple #[.slice A5 (m+1) c5,.int .i64 0])=.tuple #[.slice A5 P.1.length c5,.int .i64 P.2]:=by rw[el,MN.out]
  refine⟨A5,c5,congrArg Ending.returned e1,?_,.inr xX,qQ⟩
  rw[el]
  refine⟨el.symm,?_⟩
  rw[MN.out,flatMap_append]
  have:=dB.rd
  simpa using this
def mM(L:List (Int × aM)):Nat→Nat→Nat
 |0,s=>s
 |k+1,s=>if(dX L (s:Int)).isSome then mM L k (s+1)else s
theorem FM(L:List (Int × aM)):∀k s,mM L k s≤s+k
 |0,s=>Nat.le_refl _
 |k+1,s=>by
  unfold mM
  split
  ·have:=FM L k (s+1);omega
  ·omega
structure qN(p:Prop):Prop where
 out:p
theorem oq(w:World)(A:Option Addr)(c:Nat)(L:List (Int × aM))(h:bR jh 2 w A L.length L)(hl:L.length≤1000000000) :
  Calls prog 89 #[.slice A L.length c] w fun e w'=>e=.returned (.int .i64 (mM L 4096 0:Nat))∧w=w':=by
 have C:=fun x=>xD w A c L h (by omega) x
 obtain⟨F,hF⟩:=ex1 (mM L 4096 0)
 have HF:=hdn hF
 rw[hF]
 clear hF
 obtain⟨m,hm⟩:=ex1 L.length
 rw[hm]at C ⊢
 clear hm h hl
 go_enter func89,ntmps89
 repeat' go_step
 go_loopw [3] (fun v3 wr=>qN (∃i:Nat,i≤4096∧v3=.int .i64 (i:Int)∧mM L (4096-i) i=F∧wr=w)) (fun v3 _=>4096-(intOf v3).toNat)
 case atStart=>exact qN.mk ⟨0,by omega,rfl,HF.out,by trivial⟩
 case round=>
  obtain⟨i,hi,rfl,hd,hwr⟩:=hrel.out
  subst hwr
  clear hrel
  have HD:=hdn hd
  clear hd
  by_cases hlt:i<4096
  ·have hil:decide ((i:Int)<4096)=true:=dTo
   have Uj:decide (i<4096)=true:=dTo
   have hw1:=aA.wr ((i:Int)+1)
   have C1:=C (i:Int)
   obtain⟨R,hR⟩:=ex1 (dX L (i:Int))
   have HS:=hdn (show F=if R.isSome then mM L (4096-(i+1)) (i+1)else i by
    rw[←HD.out,show 4096-i=(4096-(i+1))+1 by omega,mM,hR])
   rw[hR]at C1
   clear hR
   have EH:=hdn hlt
   clear hlt hi
   repeat' go_step
   refine C1.mono ?_;rintro e w1 ⟨rfl,rfl⟩
   clear C1
   cases R with
   |some y=>
    simp only[pI,Option.isSome_some]
    refine wk ?_
    exact⟨qN.mk ⟨i+1,by have:=EH.out;omega,by simp,by rw[HS.out];rfl,by trivial⟩,by have:=EH.out;simp[intOf];omega⟩
   |none=>
    simp only[pI,Option.isSome_none]
    refine wk ?_
    go_ret
    exact⟨by rw[HS.out];rfl,rfl⟩
  ·obtain rfl:i=4096:=by omega
   have dQ:F=4096:=by rw[←HD.out];rfl
   subst dQ
   refine wk ?_
   go_ret
   exact⟨rfl,rfl⟩
theorem Un(w:World)(A:Option Addr)(c:Nat)(L:List (Int × aM))(h:bR jh 2 w A L.length L)(hl:L.length≤1000000000)(hr:∀p∈L,0≤p.1∧p.1<4096) :
  Calls prog 156 #[.slice A L.length c] w fun e w'=>e=.returned (.int .i64 (nJ L 0))∧w=w':=by
 obtain⟨F,hF⟩:=ex1 (nJ L 0)
 have HF:=hdn hF
 rw[hF]
 clear hF
 go_enter func156,ntmps156
 repeat' go_step
 go_loopw [3,4] (fun v3 v4 wr=>qN (∃(i:Nat)(t:Int),i≤L.length∧v4=.int .i64 (i:Int)∧v3=.int .i64 t∧nJ (L.drop i) t=F∧wr=w)) (fun _ v4 _=>L.length-(intOf v4).toNat)
 case atStart=>exact qN.mk ⟨0,0,by omega,rfl,rfl,HF.out,by trivial⟩
 case round=>
  obtain⟨i,t,hi,rfl,rfl,hd,hwr⟩:=hrel.out
  subst hwr
  clear hrel
  have HD:=hdn hd
  clear hd
  by_cases hlt:i<L.length
  ·have hil:(i:Int)<(L.length:Int):=by omega
   have hw1:=aA.wr ((i:Int)+1)
   obtain⟨ad,rfl,h0,hj⟩:=bR.at_ (f:=jh) (s:=2) (fun _=>rfl) h hlt
   have HS:=hdn (show nJ (L.drop i) t=nJ (L.drop (i+1)) (if t≤L[i].1 then L[i].1+1 else t) by
    rw[drop_eq_getElem_cons hlt];rfl)
   have hrr:=hr _ (getElem_mem hlt)
   generalize L[i]=y at *
   have d0:=h0 _ rfl
   clear h0 hj
   have hw2:=aA.wr (y.1+1)
   by_cases e1:t≤y.1
   ·have t1:decide (t≤y.1)=true:=dTx e1
    refine wk ?_
    refine⟨qN.mk ⟨i+1,y.1+1,by omega,by simp,by simp,?_,by trivial⟩,by simp[intOf];omega⟩
    have:=HS.out
    rw[if_pos e1,HD.out]at this
    exact this.symm
   ·have t1:decide (t≤y.1)=false:=dFx e1
    refine wk ?_
    refine⟨qN.mk ⟨i+1,t,by omega,by simp,by simp,?_,by trivial⟩,by simp[intOf];omega⟩
    have:=HS.out
    rw[if_neg e1,HD.out]at this
    exact this.symm
  ·obtain rfl:i=L.length:=by omega
   have hil:¬ ((L.length:Int)<(L.length:Int)):=by omega
   have dQ:t=F:=by rw[←HD.out,drop_length];rfl
   subst dQ
   refine wk ?_
   go_ret
   exact⟨rfl,rfl⟩
def sS(L:List (Int × aM))(i:Nat):aM:=(dX L (i:Int)).getD ⟨none,0,0,[]⟩
theorem Uo(o:Option aM):pI o=(o.getD ⟨none,0,0,[]⟩).val:=by cases o<;>rfl
theorem Je(w:World)(A:Option Addr)(c:Nat)(L:List (Int × aM))(h:bR jh 2 w A L.length L)(hl:L.length≤1000000000)(hb:∀p∈L,aD w p.2.A p.2.n p.2.b)(f t:Nat)(ht:f≤t∧t≤4096) :
  Calls prog 155 #[.slice A L.length c,.int .i64 (f:Int),.int .i64 (t:Int)] w fun e w'=>∃A' c',e=.returned (.slice A' (t-f) c')∧
   uV w' A' ((range' f (t-f)).map (sS L))∧(∀k∈ah A',w.heap.size≤k)∧aa [] [] w w':=by
 have C:=fun(w1:World)(u:aa [] [] w w1) x=>xD w1 A c L (h.au u) (by omega) x
 obtain⟨D,hD⟩:=ex1 (t - f)
 have HD:=hdn hD
 rw[hD]
 clear hD
 obtain⟨m,hm⟩:=ex1 L.length
 rw[hm]at C ⊢
 clear hm h hl
 go_enter func155,ntmps155
 repeat' go_step
 go_loopw [7,8] (fun v7 v8 wr=>qN (∃(i:Nat)(B:Option Addr)(d:Nat),f+i≤t∧v8=.int .i64 ((f+i:Nat):Int)∧v7=.slice B i d∧
  aA.Own 28 1 wr B i d (((range' f i).map (sS L)).map aM.val)∧(∀k∈ah B,w.heap.size≤k)∧aa [] [] w wr)) (fun _ v8 _=>t-(intOf v8).toNat)
 case atStart=>exact qN.mk ⟨0,none,0,by omega,rfl,rfl,aA.Own.nil _ _ _,by simp[ah],aa.refl _ _⟩
 case round=>
  obtain⟨i,B,d,hi,rfl,rfl,ho,hB,U⟩:=hrel.out
  clear hrel
  by_cases hlt:f+i<t
  ·have hil:((f+i:Nat):Int)<(t:Int):=by omega
   have hw1:IntKind.i64.wrap (((f+i:Nat):Int)+1)=((f+i+1:Nat):Int):=by rw[IntKind.wrap_i64];omega
   have C1:=C wr U ((f+i:Nat):Int)
   have HG:=hdn (show(dX L ((f+i:Nat):Int)).getD ⟨none,0,0,[]⟩=sS L (f+i)from rfl)
   rw[Uo,HG.out]at C1
   obtain⟨q,hq⟩:=ex1 (f+i)
   have HQ:=hdn hq
   rw[hq]at hil hw1 C1 hlt ⊢
   clear hq
   obtain⟨y,hy⟩:=ex1 (sS L q)
   rw[hy]at C1
   have HY:=hdn hy
   clear hy
   obtain⟨S,hS⟩:=ex1 ((dX L (q:Int)).isSome)
   rw[hS]at C1
   clear hS
   repeat' go_step
   refine C1.mono ?_;rintro e w1 ⟨rfl,rfl⟩
   clear C1
   unfold aM.val
   refine bN ?_
   refine bQ rfl _ _ 72 rfl 28 underlying72 Hy rfl (by decide) ho rfl wr.heap.size rfl rfl (news:=[.slice y.A y.n y.c]) rfl rfl (by unfold maxLen;omega) (by omega) ?_
   intro A6 c6 w6 iX eP
   have jH:∀k∈ah A6,w.heap.size≤k:=fun k hk=>by
    rcases eP.fresh k hk with hh|hh
    ·exact hB k hh
    ·have:=U.size;omega
   have U6:aa [] [] w w6:=U.aB hB eP
   refine wk ?_
   refine⟨qN.mk ⟨i+1,A6,c6,by have:=HQ.out;omega,by rw[←HQ.out];simp[Int.add_assoc],by simp,?_,jH,U6⟩,by simp[intOf];omega⟩
   rw[range'_concat,map_append,map_append]
   have e1:(1:Nat)*i=i:=Nat.one_mul i
   simp only[Nat.one_mul,map_cons,map_nil]
   rw[HQ.out,HY.out]
   simpa[aM.val]using iX
  ·obtain rfl:D=i:=by have:=HD.out;omega
   have hil:¬ (((f+D:Nat):Int)<(t:Int)):=by omega
   have acy:=ho.rd
   have ZP:=hdn (show uV wr B ((range' f D).map (sS L))∧(∀k∈ah B,w.heap.size≤k) from⟨⟨by simpa using acy,fun y hy=>by
    obtain⟨j,-,rfl⟩:=mem_map.1 hy
    unfold sS
    cases hg:dX L (j:Int) with
    |none=>exact aD.nil _ _
    |some z=>exact(hb _ (qB hg)).upd U⟩,hB⟩)
   obtain⟨q,hq⟩:=ex1 (f+D)
   rw[hq]at hil ⊢
   clear hq acy ho hi hlt
   refine wk ?_
   go_ret
   exact⟨B,d,rfl,ZP.out.1,ZP.out.2,U⟩
theorem QM:(prog.info? 5).map (fun i=>(i.zero,i.size,i.bytes))=some (some (.int .u8 0),1,1):=by kernel_rfl
def mO(d:aM)(dn:Nat):Value:=.agg #[.slice d.A d.n d.c,.int .i64 (dn:Int)]
theorem QN(w:World)(d:aM)(dn:Nat):Calls prog 148 #[mO d dn] w fun e w'=>e=.returned (mO d d.n)∧aa [] [] w w':=by
 obtain⟨W,H,eW,hH,hB,U0⟩:=az w 55 #[.slice d.A d.n d.c,.int .i64 (dn:Int)]
 obtain⟨W2,G,fu,hG,hBG,U2⟩:=az W 55 #[.slice none 0 0,.int .i64 0]
 have aK:aa [] [] w W2:=U0.g0.trans U2.g0
 have hs0:=U0.size
 obtain⟨⟨a0,a1⟩,-⟩:=(hB.upd U2).c2
 obtain⟨⟨g0,g1⟩,l0,l1⟩:=hBG.c2
 have fin:=dM (w:=w) [.slice d.A d.n d.c,.int .i64 (d.n:Int)] hBG rfl aK (.inr (by omega))
 simp only[setRow]at fin
 obtain⟨hf,hu⟩:=fin
 obtain⟨⟨y0,y1⟩,-⟩:=hf.c2
 unfold mO
 clear hf
 go_enter func148,ntmps148
 refine wk ?_
 exact bodyPost_ret (v:=.agg #[.slice d.A d.n d.c,.int .i64 (d.n:Int)]) (by simp[results,results148,go_sem,y0,y1]) rfl ⟨rfl,hu⟩
structure Ow(p:Prop):Prop where
 out:p
theorem Ox(w:World)(d:aM)(dn:Nat)(k:Int)(hk: -9223372036854775808≤k∧k<9223372036854775808)(hd:dn≤d.n∧d.n≤d.c∧d.n≤2000000):Calls prog 150 #[mO d dn,.int .i64 k] w fun e w'=>
  e=.returned (mO ⟨d.A,dn+(max 0 (min k ((d.n:Int)-dn))).toNat,d.c,d.b.take (dn+(max 0 (min k ((d.n:Int)-dn))).toNat)⟩ (dn+(max 0 (min k ((d.n:Int)-dn))).toNat))∧aa [] [] w w':=by
 obtain⟨W,H,eW,hH,hB,U0⟩:=az w 55 #[.slice d.A d.n d.c,.int .i64 (dn:Int)]
 obtain⟨W2,G,fu,hG,hBG,U2⟩:=az W 55 #[.slice none 0 0,.int .i64 0]
 have aK:aa [] [] w W2:=U0.g0.trans U2.g0
 have hs0:=U0.size
 obtain⟨⟨a0,a1⟩,-⟩:=(hB.upd U2).c2
 obtain⟨⟨g0,g1⟩,l0,l1⟩:=hBG.c2
 obtain⟨F,hF⟩:=ex1 (dn+(max 0 (min k ((d.n:Int) - dn))).toNat)
 have HF:=hdn hF
 rw[hF]
 have hFb:dn≤F∧F≤d.n:=by omega
 clear hF
 have fin:=dM (w:=w) [.slice d.A F d.c,.int .i64 (F:Int)] hBG rfl aK (.inr (by omega))
 simp only[setRow]at fin
 obtain⟨hf,hu⟩:=fin
 obtain⟨⟨y0,y1⟩,-⟩:=hf.c2
 unfold mO
 clear hf
 go_enter func150,ntmps150
 repeat' go_step
 go_loopw [5,6] (fun v5 v6 wr=>Ow (∃i:Nat,dn+i≤F∧v5=.int .i64 ((dn+i:Nat):Int)∧v6=.int .i64 (i:Int)∧W2=wr)) (fun v5 _ _=>F-(intOf v5).toNat)
 case atStart=>exact Ow.mk ⟨0,by omega,rfl,rfl,by trivial⟩
 case round=>
  obtain⟨i,hi,rfl,rfl,hwr⟩:=hrel.out
  subst hwr
  clear hrel
  have dQ:=HF.out
  have hw1:IntKind.i64.wrap (((dn+i:Nat):Int)+1)=((dn+i+1:Nat):Int):=by rw[IntKind.wrap_i64];omega
  have hw2:=aA.wr ((i:Int)+1)
  by_cases h1:(i:Int)<k
  ·have t1:decide ((i:Int)<k)=true:=dTx h1
   by_cases h2:dn+i<d.n
   ·have t2:decide (((dn+i:Nat):Int)<(d.n:Int))=true:=dTo
    have hlt:dn+i<F:=by omega
    obtain⟨q,hq⟩:=ex1 (dn+i)
    have HQ:=hdn hq
    rw[hq]at hw1 t2 ⊢
    have t3:decide (q<d.n)=true:=dTo
    clear hq dQ
    refine wk ?_
    exact⟨Ow.mk ⟨i+1,by have:=HQ.out;omega,by rw[←HQ.out];simp[Int.add_assoc],by simp,by trivial⟩,by have:=HQ.out;simp[intOf];omega⟩
   ·have t2:decide (((dn+i:Nat):Int)<(d.n:Int))=false:=dFo
    have hlt:dn+i=F:=by omega
    rw[hlt]at t2 hw1 ⊢
    have t3:decide (F<d.n)=false:=dFo
    clear dQ h2 hlt hi
    refine wk ?_
    exact bodyPost_ret (v:=.agg #[.slice d.A F d.c,.int .i64 (F:Int)]) (by simp[results,results150,go_sem,y0,y1]) rfl ⟨rfl,hu⟩
  ·have t1:decide ((i:Int)<k)=false:=dFx h1
   have hlt:dn+i=F:=by omega
   rw[hlt]at hw1 ⊢
   clear dQ hlt hi
   refine wk ?_
   exact bodyPost_ret (v:=.agg #[.slice d.A F d.c,.int .i64 (F:Int)]) (by simp[results,results150,go_sem,y0,y1]) rfl ⟨rfl,hu⟩
theorem Ur(w:World)(d:aM)(dn k:Nat)(hd:d.n≤d.c∧d.n≤2000000∧k≤d.n):Calls prog 152 #[mO d dn,.int .i64 (k:Int)] w fun e w'=>
  e=.returned (.tuple #[mO ⟨d.A,k,d.c,d.b.take k⟩ (min dn k),.int .i64 0])∧aa [] [] w w':=by
 obtain⟨W,H,eW,hH,hB,U0⟩:=az w 55 #[.slice d.A d.n d.c,.int .i64 (dn:Int)]
 obtain⟨W2,G,fu,hG,hBG,U2⟩:=az W 55 #[.slice none 0 0,.int .i64 0]
 have aK:aa [] [] w W2:=U0.g0.trans U2.g0
 have hs0:=U0.size
 obtain⟨⟨a0,a1⟩,-⟩:=(hB.upd U2).c2
 obtain⟨⟨g0,g1⟩,l0,l1⟩:=hBG.c2
 have t0:decide ((k:Int)<0)=false:=dFo
 have t1:decide ((d.n:Int)<(k:Int))=false:=dFo
 have t2:decide (d.n<k)=false:=dFo
 obtain⟨m,hm⟩:=ex1 (min dn k)
 have HM:=hdn hm
 rw[hm]
 clear hm
 have fin:=dM (w:=w) [.slice d.A k d.c,.int .i64 (m:Int)] hBG rfl aK (.inr (by omega))
 simp only[setRow]at fin
 obtain⟨hf,hu⟩:=fin
 obtain⟨⟨y0,y1⟩,-⟩:=hf.c2
 have hu:=hu.drew
 unfold mO
 clear hf
 go_enter func152,ntmps152
 repeat' first|go_guarded|go_step
 by_cases hkd:k<dn
 ·obtain rfl:m=k:=by have:=HM.out;omega
  have hmi:min (dn:Int) (m:Int)=(m:Int):=by omega
  go_region
  all_goals (refine wk ?_)
  all_goals exact bodyPost_ret (v:=.tuple #[.agg #[.slice d.A m d.c,.int .i64 (m:Int)],.int .i64 0]) (by simp[results,results152,go_sem,y0,y1]) rfl ⟨rfl,hu⟩
 ·obtain rfl:m=dn:=by have:=HM.out;omega
  have hmi:min (m:Int) (k:Int)=(m:Int):=by omega
  go_region
  all_goals (refine wk ?_)
  all_goals exact bodyPost_ret (v:=.tuple #[.agg #[.slice d.A k d.c,.int .i64 (m:Int)],.int .i64 0]) (by simp[results,results152,go_sem,y0,y1]) rfl ⟨rfl,hu⟩
theorem Lj(w:World)(d:aM)(dn:Nat)(hd:aD w d.A d.n d.b)(A:Option Addr)(n c:Nat)(l:List UInt8)(hl:aD w A n l)(hb:d.n≤2000000∧n≤2000000) :
  Calls prog 258 #[mO d dn,.slice A n c] w fun e w'=>aa [] [] w w'∧
   (
    if 1048576<d.n+n then e=.returned (.tuple #[mO d dn,.int .i64 5]) else
    ∃A' c',e=.returned (.tuple #[mO ⟨A',d.n+n,c',d.b++l⟩ dn,.int .i64 0])∧aD w' A' (d.n+n) (d.b++l)∧d.n+n≤c'∧c'≤maxLen∧∀k∈ah A',w.heap.size≤k):=by
 obtain⟨W,H,eW,hH,hB,U0⟩:=az w 55 #[.slice d.A d.n d.c,.int .i64 (dn:Int)]
 obtain⟨W2,G,fu,hG,hBG,U2⟩:=az W 55 #[.slice none 0 0,.int .i64 0]
 have aK:aa [] [] w W2:=U0.g0.trans U2.g0
 have hs0:=U0.size
 have hs2:=U2.size
 have hB2:=hB.upd U2
 obtain⟨⟨a0,a1⟩,-⟩:=hB2.c2
 have hw1:IntKind.i64.wrap ((d.n:Int)+(n:Int))=((d.n+n:Nat):Int):=by rw[IntKind.wrap_i64];omega
 unfold mO
 by_cases aed:1048576<d.n+n
 ·have t1:decide ((1048576:Int)<((d.n+n:Nat):Int))=true:=dTo
  have t2:decide (1048576<d.n+n)=true:=dTo
  simp only[if_pos aed]
  obtain⟨⟨g0,g1⟩,l0,l1⟩:=hBG.c2
  have fin:=dM (w:=w) [.slice d.A d.n d.c,.int .i64 (dn:Int)] hBG rfl aK (.inr (by omega))
  simp only[setRow]at fin
  obtain⟨hf,hu⟩:=fin
  obtain⟨⟨y0,y1⟩,-⟩:=hf.c2
  clear hf hd hl
  obtain⟨q,hq⟩:=ex1 (d.n+n)
  rw[hq]at hw1 t1 t2
  clear hq aed
  go_enter func258,ntmps258
  refine wk ?_
  exact bodyPost_ret (v:=.tuple #[.agg #[.slice d.A d.n d.c,.int .i64 (dn:Int)],.int .i64 5]) (by simp[results,results258,go_sem,y0,y1]) rfl ⟨hu,rfl⟩
 have t1:decide ((1048576:Int)<((d.n+n:Nat):Int))=false:=dFo
 have t2:decide (1048576<d.n+n)=false:=dFo
 simp only[if_neg aed]
 have hdl:=hd.len
 have hll:=hl.len
 have hd2:=(hd.upd aK).alloc (.cells #[] 5)
 have hl2:=hl.upd aK
 obtain⟨q,hq⟩:=ex1 (d.n+n)
 have HQ:=hdn hq
 rw[hq]at hw1 t1 t2 ⊢
 clear hq
 have HDL:=hdn hdl
 have nA:=hdn hll
 have Jf:d.b.length≤2000000:=by omega
 have hlb:l.length≤2000000:=by omega
 clear hdl hll
 have HF:=hdn aed
 clear aed
 obtain⟨⟨z0,z1⟩,-⟩:=(hB2.alloc (.cells #[] 5)).c2
 go_enter func258,ntmps258
 repeat' (fail_if_success with_reducible refine Ag rfl ?_);go_step
 refine eD rfl _ _ 28 rfl 5 underlying28 QM (aT.made 5 W2) rfl hd2 rfl (by simp only[length_nil];omega) ?_
 intro A4 k4 c4 W4 bY bM
 rw[nil_append]at bY
 have hk4:k4=d.n:=by have h1:=bY.len;have h2:=HDL.out;omega
 have HK4:=hdn hk4
 rw[hk4]at bY ⊢
 clear hk4
 have qf:∀k∈ah A4,w.heap.size≤k:=fun k hk=>by
  rcases bM.fresh k hk with hh|hh
  ·simp only[ah,mem_singleton]at hh;omega
  ·simp at hh;omega
 have n4:∀{k:Nat},k<W2.heap.size→k∉ah (some (⟨W2.heap.size,0,none⟩:Addr)):=fun hk hm=>by simp only[ah,mem_singleton]at hm;omega
 have hB4:=(hB2.alloc (.cells #[] 5)).upd bM (n4 hB2.lt)
 have hG4:=(hBG.alloc (.cells #[] 5)).upd bM (n4 hBG.lt)
 have uf:aa [] [] w W4:=(aK.trans (((aa.refl [] W2).alloc (.cells #[] 5)).gives (b':=[]) (by simp))).aB (X:=ah (some ⟨W2.heap.size,0,none⟩)) (by simp only[ah,mem_singleton];rintro k rfl;omega) bM
 have hl4:=hl.upd uf
 clear a0 a1 z0 z1 hd2 hl2 bM
 repeat' go_step
 obtain⟨A5,c5,W5,abS,dB,bD⟩:=oQ (P:=prog) W4.drew 28 28 5 underlying28 QM rfl (by decide) A4 d.n c4 _ bY.drew.own A n c _ hl4 (Ec l) (by unfold maxLen;omega) (by omega)
 have ZQ:∀{k:Nat}{t:TypeId}{cs:Array Value},ak W4 k t cs→t≠5→k∉ah A4:=fun h1 h2 hm=>aU h1.tag (bY.own.tag _ hm) (by simpa using h2) rfl
 have fw:=hB4.drew.upd bD (ZQ hB4 (by decide))
 have gF:=hG4.drew.upd bD (ZQ hG4 (by decide))
 obtain⟨⟨g0,g1⟩,l0,l1⟩:=gF.c2
 obtain⟨⟨a0,a1⟩,-⟩:=fw.c2
 obtain⟨⟨b0,b1⟩,-⟩:=hB4.drew.c2
 have xX:∀k∈ah A5,w.heap.size≤k:=fun k hk=>by
  rcases bD.fresh k hk with hh|hh
  ·exact qf k hh
  ·have:=uf.size;simp at hh;omega
 have qQ:aa [] [] w W5:=uf.drew.aB qf bD
 have ZR:aD W5 A5 q (d.b++l):=by
  have:=dB.rd
  rw[HQ.out]at this
  exact⟨by rw[mW];exact this.1,fun h=>by
   obtain⟨ad,e,hc⟩:=this.2 h
   exact⟨ad,e,fun j u hj=>hc j u (by rw[mW]at hj;exact hj)⟩⟩
 have fin:=dM (w:=w) [.slice A5 q c5,.int .i64 (dn:Int)] gF rfl qQ (.inr (by omega))
 simp only[setRow]at fin
 obtain⟨hf,hu⟩:=fin
 obtain⟨⟨y0,y1⟩,-⟩:=hf.c2
 have aeS:=ZR.upd ((((aa.refl [G] W5).setCell (p:=⟨G,0,none⟩) (.inl (by simp)) (.slice A5 q c5)).setCell (p:=⟨G,1,none⟩) (.inl (by simp)) (.int .i64 (dn:Int)))) (fun k hk=>by simp only[mem_singleton];rintro rfl;exact aU gF.tag (dB.tag _ hk) (by decide) rfl)
 have adT:q≤c5∧c5≤maxLen:=by rw[←HQ.out];exact dB.cap
 clear hf ZR dB bD fw gF hB4 hG4 bY hl4 hd hl
 rw[HQ.out]at abS
 go_region_law (refine qo rfl (.tmp 19) (.tmp 20) 28 rfl (.slice A4 d.n c4) (.slice A n c) _ W5 rfl rfl abS ?_)
 all_goals (refine bN ?_)
 all_goals exact bodyPost_ret (v:=.tuple #[.agg #[.slice A5 q c5,.int .i64 (dn:Int)],.int .i64 0]) (by simp[results,results258,go_sem,y0,y1]) rfl ⟨hu,A5,c5,rfl,aeS,adT.1,adT.2,xX⟩
theorem QO(w:World)(b:Bl)(s:Int):Calls prog 222 #[b.val,.int .i64 s] w fun e w'=>e=.returned (b.next s).val∧aa [] [] w w':=by
 obtain⟨W,H,eW,hH,hB,U0⟩:=az w 30 #[.int .i64 b.r,.int .i64 b.s]
 obtain⟨W2,G,fu,hG,hG2,U2⟩:=az W 30 #[.int .i64 0,.int .i64 0]
 have aK:aa [] [] w W2:=U0.g0.trans U2.g0
 obtain⟨⟨b0,b1⟩,-⟩:=(hB.upd U2).c2
 obtain⟨⟨g0,g1⟩,l0,l1⟩:=hG2.c2
 have fin:=fun(x y:Int)=>dM (w:=w) [.int .i64 x,.int .i64 y] hG2 rfl aK (.inr (by have:=U0.size;omega))
 simp only[setRow]at fin
 rw[Bl.val]
 go_enter func222,ntmps222
 by_cases h1:b.r<0
 ·have d1:decide (b.r<0)=true:=dTx h1
  obtain⟨hf,hu⟩:=fin 1 s
  obtain⟨⟨y0,y1⟩,-⟩:=hf.c2
  refine wk ?_
  exact bodyPost_ret (v:=.agg #[.int .i64 1,.int .i64 s]) (by simp[results,results222,go_sem,y0,y1]) rfl ⟨by unfold Bl.next;rw[if_pos h1];rfl,hu⟩
 have d1:decide (b.r<0)=false:=dFx h1
 by_cases h2:1099511627776≤b.r
 ·have d2:decide (1099511627776≤b.r)=true:=dTx h2
  obtain⟨hf,hu⟩:=fin 1099511627776 s
  obtain⟨⟨y0,y1⟩,-⟩:=hf.c2
  refine wk ?_
  exact bodyPost_ret (v:=.agg #[.int .i64 1099511627776,.int .i64 s]) (by simp[results,results222,go_sem,y0,y1]) rfl ⟨by unfold Bl.next;rw[if_neg h1,if_neg (by omega)];rfl,hu⟩
 have d2:decide (1099511627776≤b.r)=false:=dFx h2
 have hw1:=aA.wr (b.r+1)
 obtain⟨hf,hu⟩:=fin (b.r+1) s
 obtain⟨⟨y0,y1⟩,-⟩:=hf.c2
 refine wk ?_
 exact bodyPost_ret (v:=.agg #[.int .i64 (b.r+1),.int .i64 s]) (by simp[results,results222,go_sem,y0,y1]) rfl ⟨by unfold Bl.next;rw[if_neg h1,if_pos (by omega)];rfl,hu⟩
theorem Bu:∃i,prog.info? 166=some i∧i.size=6:=⟨_,rfl,by kernel_rfl⟩
theorem Jg(w:World)(x:aN)(b:Bl):Calls prog 260 #[x.val,b.val] w fun e w'=>e=.returned (.tuple #[({x with p:=(gP x b).getD x.p} :aN).val,.bool (gP x b).isSome])∧aa [] [] w w':=by
 obtain⟨W,H,eW,hH,hB,U0⟩:=az w 166 #[.int .i64 x.p.r,.int .i64 x.p.s,.bool x.so,.int .i64 x.at_.r,.int .i64 x.at_.s,.slice x.A x.n x.c]
 obtain⟨W1,J,nK,hJ,fT,U1⟩:=az W 30 #[.int .i64 b.r,.int .i64 b.s]
 obtain⟨W2,G,fu,hG,hBG,U2⟩:=az W1 166 #[.int .i64 0,.int .i64 0,.bool false,.int .i64 0,.int .i64 0,.slice none 0 0]
 have aK:aa [] [] w W2:=(U0.g0.trans U1.g0).trans U2.g0
 have hB2:=(hB.upd U1).upd U2
 have hJ2:=fT.upd U2
 have hs0:=U0.size
 have hs1:=U1.size
 have gV:G≠H:=by have:=(hB.upd U1).lt;omega
 have aR:w.heap.size≤G:=by omega
 have hHw:w.heap.size≤H:=by omega
 have HP:=hdn (gP.eq_def x b)
 have C:=mD W2 b x.p
 rw[aN.val,Bl.val]
 rw[Bl.val,Bl.val]at C
 obtain⟨⟨a0,a1,a2,a3,a4,a5⟩,-⟩:=hB2.c6
 obtain⟨⟨b0,b1⟩,-⟩:=hJ2.c2
 have fin:=fun(W3:World)(u:aa [] [] W2 W3)(p:Bl)=>dM (w:=w) [.int .i64 p.r,.int .i64 p.s,.bool x.so,.int .i64 x.at_.r,.int .i64 x.at_.s,.slice x.A x.n x.c] (hBG.upd u) rfl (aK.trans u) (.inr aR)
 simp only[setRow]at fin
 go_enter func260,ntmps260
 by_cases h1:b.r<1
 ·have d1:decide (b.r<1)=true:=dTx h1
  obtain⟨⟨g0,g1,g2,g3,g4,g5⟩,l0,l1,l2,l3,l4,l5⟩:=hBG.c6
  obtain⟨hf,hu⟩:=fin W2 (aa.refl _ _) x.p
  obtain⟨⟨y0,y1,y2,y3,y4,y5⟩,-⟩:=hf.c6
  have hn:gP x b=none:=by rw[HP.out,if_pos (.inl h1)]
  have HN:=hdn hn
  clear hn hf C
  refine wk ?_
  exact bodyPost_ret (v:=.tuple #[.agg #[.int .i64 x.p.r,.int .i64 x.p.s,.bool x.so,.int .i64 x.at_.r,.int .i64 x.at_.s,.slice x.A x.n x.c],.bool false]) (by simp[results,results260,go_sem,y0,y1,y2,y3,y4,y5]) rfl ⟨by rw[HN.out];rfl,hu⟩
 have d1:decide (b.r<1)=false:=dFx h1
 repeat' first|go_guarded|go_step
 refine C.mono ?_;rintro e w3 ⟨rfl,u3⟩
 have hB3:=hB2.upd u3
 have hJ3:=hJ2.upd u3
 have hG3:=hBG.upd u3
 clear C a0 a1 a2 a3 a4 a5 b0 b1
 obtain⟨⟨a0,a1,a2,a3,a4,a5⟩,m0,m1,-⟩:=hB3.c6
 obtain⟨⟨b0,b1⟩,-⟩:=hJ3.c2
 obtain⟨⟨g0,g1,g2,g3,g4,g5⟩,l0,l1,l2,l3,l4,l5⟩:=hG3.c6
 by_cases h2:bg b x.p<0
 ·have d2:decide (bg b x.p<0)=true:=dTx h2
  obtain⟨hf,hu⟩:=fin w3 u3 x.p
  obtain⟨⟨y0,y1,y2,y3,y4,y5⟩,-⟩:=hf.c6
  have hn:gP x b=none:=by rw[HP.out,if_pos (.inr h2)]
  have HN:=hdn hn
  clear hn hf h2
  refine wk ?_
  exact bodyPost_ret (v:=.tuple #[.agg #[.int .i64 x.p.r,.int .i64 x.p.s,.bool x.so,.int .i64 x.at_.r,.int .i64 x.at_.s,.slice x.A x.n x.c],.bool false]) (by simp[results,results260,go_sem,y0,y1,y2,y3,y4,y5]) rfl ⟨by rw[HN.out];rfl,hu⟩
 have d2:decide (bg b x.p<0)=false:=dFx h2
 have hn:gP x b=some b:=by rw[HP.out,if_neg (by omega)]
 have HN:=hdn hn
 clear hn h2
 obtain⟨W4,kv⟩:=ex1 ((w3.setCell ⟨H,0,none⟩ (.int .i64 b.r)).setCell ⟨H,1,none⟩ (.int .i64 b.s))
 have u4:aa [H] [H] w3 W4:=by rw[←kv];exact((aa.refl [H] w3).setCell (p:=⟨H,0,none⟩) (.inl (by simp)) _).setCell (p:=⟨H,1,none⟩) (.inl (by simp)) _
 have hB4:ak W4 H 166 #[.int .i64 b.r,.int .i64 b.s,.bool x.so,.int .i64 x.at_.r,.int .i64 x.at_.s,.slice x.A x.n x.c]:=by rw[←kv];exact(hB3.aO 0 _).aO 1 _
 have hG4:=hG3.upd u4 (by simpa using gV)
 have U4:aa [] [] w W4:=(aK.trans u3).aB (X:=[H]) (by simp only[mem_singleton];rintro k rfl;exact hHw) u4
 have adp:=dM (w:=w) [.int .i64 b.r,.int .i64 b.s,.bool x.so,.int .i64 x.at_.r,.int .i64 x.at_.s,.slice x.A x.n x.c] hG4 rfl U4 (.inr aR)
 simp only[setRow]at adp
 obtain⟨hf,hu⟩:=adp
 obtain⟨⟨y0,y1,y2,y3,y4,y5⟩,-⟩:=hf.c6
 obtain⟨⟨c0,c1,c2,c3,c4,c5⟩,-⟩:=hB4.c6
 obtain⟨⟨e0,e1,e2,e3,e4,e5⟩,i0,i1,i2,i3,i4,i5⟩:=hG4.c6
 clear hf u4 u3 hB4 hG4 hB3 hG3 hJ3 hB2 hBG hJ2 hB fT fin
 refine wk ?_
 exact bodyPost_ret (v:=.tuple #[.agg #[.int .i64 b.r,.int .i64 b.s,.bool x.so,.int .i64 x.at_.r,.int .i64 x.at_.s,.slice x.A x.n x.c],.bool true]) (by simp[results,results260,go_sem,y0,y1,y2,y3,y4,y5]) rfl ⟨by rw[HN.out];rfl,hu⟩
theorem Av(w:World)(x:aN)(b:Bl)(A:Option Addr)(n c:Nat):Calls prog 153 #[x.val,b.val,.slice A n c] w fun e w'=>
  e=.returned (.tuple #[(if bg b x.p<0 then x else⟨b,true,b,A,n,c,[]⟩:aN).val,.bool (!decide (bg b x.p<0))])∧aa [] [] w w':=by
 obtain⟨W,H,eW,hH,hB,U0⟩:=az w 166 #[.int .i64 x.p.r,.int .i64 x.p.s,.bool x.so,.int .i64 x.at_.r,.int .i64 x.at_.s,.slice x.A x.n x.c]
 obtain⟨W1,J,nK,hJ,fT,U1⟩:=az W 30 #[.int .i64 b.r,.int .i64 b.s]
 obtain⟨W2,G,fu,hG,hBG,U2⟩:=az W1 166 #[.int .i64 0,.int .i64 0,.bool false,.int .i64 0,.int .i64 0,.slice none 0 0]
 have aK:aa [] [] w W2:=(U0.g0.trans U1.g0).trans U2.g0
 have hB2:=(hB.upd U1).upd U2
 have hJ2:=fT.upd U2
 have hs0:=U0.size
 have hs1:=U1.size
 have aR:w.heap.size≤G:=by omega
 have C:=mD W2 b x.p
 rw[aN.val,Bl.val]
 rw[Bl.val,Bl.val]at C
 obtain⟨⟨a0,a1,a2,a3,a4,a5⟩,-⟩:=hB2.c6
 obtain⟨⟨b0,b1⟩,-⟩:=hJ2.c2
 go_enter func153,ntmps153
 repeat' go_step
 refine C.mono ?_;rintro e w3 ⟨rfl,u3⟩
 have hB3:=hB2.upd u3
 have hJ3:=hJ2.upd u3
 have hG3:=hBG.upd u3
 clear C a0 a1 a2 a3 a4 a5 b0 b1
 obtain⟨⟨a0,a1,a2,a3,a4,a5⟩,m0,m1,-⟩:=hB3.c6
 obtain⟨⟨b0,b1⟩,-⟩:=hJ3.c2
 obtain⟨⟨g0,g1,g2,g3,g4,g5⟩,l0,l1,l2,l3,l4,l5⟩:=hG3.c6
 by_cases h2:bg b x.p<0
 ·have d2:decide (bg b x.p<0)=true:=dTx h2
  have adp:=dM (w:=w) [.int .i64 x.p.r,.int .i64 x.p.s,.bool x.so,.int .i64 x.at_.r,.int .i64 x.at_.s,.slice x.A x.n x.c] hG3 rfl (aK.trans u3) (.inr aR)
  simp only[setRow]at adp
  obtain⟨hf,hu⟩:=adp
  obtain⟨⟨y0,y1,y2,y3,y4,y5⟩,-⟩:=hf.c6
  have HN:=hdn h2
  clear h2 hf
  refine wk ?_
  exact bodyPost_ret (v:=.tuple #[.agg #[.int .i64 x.p.r,.int .i64 x.p.s,.bool x.so,.int .i64 x.at_.r,.int .i64 x.at_.s,.slice x.A x.n x.c],.bool false]) (by simp[results,results153,go_sem,y0,y1,y2,y3,y4,y5]) rfl ⟨by rw[if_pos HN.out];simp[aN.val,HN.out],hu⟩
 have d2:decide (bg b x.p<0)=false:=dFx h2
 have adp:=dM (w:=w) [.int .i64 b.r,.int .i64 b.s,.bool true,.int .i64 b.r,.int .i64 b.s,.slice A n c] hG3 rfl (aK.trans u3) (.inr aR)
 simp only[setRow]at adp
 obtain⟨hf,hu⟩:=adp
 obtain⟨⟨y0,y1,y2,y3,y4,y5⟩,-⟩:=hf.c6
 have HN:=hdn h2
 clear h2 hf
 refine wk ?_
 exact bodyPost_ret (v:=.tuple #[.agg #[.int .i64 b.r,.int .i64 b.s,.bool true,.int .i64 b.r,.int .i64 b.s,.slice A n c],.bool true]) (by simp[results,results153,go_sem,y0,y1,y2,y3,y4,y5]) rfl ⟨by rw[if_neg HN.out];simp[aN.val,HN.out],hu⟩
theorem Fp(w:World)(x y:aN)(hx:aD w x.A x.n x.b)(hy:aD w y.A y.n y.b) :
  Calls prog 91 #[x.val,y.val] w fun e w'=>e=.returned (.bool (x.same y))∧aa [] [] w w':=by
 obtain⟨W,g1,g2,eW,h1,h2,hB1,hB2,U0⟩:=vY w 166 166 #[.int .i64 x.p.r,.int .i64 x.p.s,.bool x.so,.int .i64 x.at_.r,.int .i64 x.at_.s,.slice x.A x.n x.c] #[.int .i64 y.p.r,.int .i64 y.p.s,.bool y.so,.int .i64 y.at_.r,.int .i64 y.at_.s,.slice y.A y.n y.c]
 have s1:=strOf (hx.upd U0) x.c
 have s2:=strOf (hy.upd U0) y.c
 have U:=U0.g0
 have E1:=mR x.p.r x.p.s y.p.r y.p.s
 have E2:=mR x.at_.r x.at_.s y.at_.r y.at_.s
 have HP:=hdn (aN.same.eq_def x y)
 obtain⟨⟨a0,a1,a2,a3,a4,a5⟩,-⟩:=hB1.c6
 obtain⟨⟨b0,b1,b2,b3,b4,b5⟩,-⟩:=hB2.c6
 clear hx hy hB1 hB2 U0
 rw[aN.val,aN.val]
 generalize x.same y=res at *
 generalize ((x.p.r==y.p.r)&&(x.p.s==y.p.s))=q1 at *
 generalize ((x.at_.r==y.at_.r)&&(x.at_.s==y.at_.s))=q3 at *
 go_enter func91,ntmps91
 cases q1 with
 |false=>
  refine wk ?_
  go_ret
  exact⟨by rw[HP.out];rfl,U⟩
 |true=>
  cases hs:(x.so==y.so) with
  |false=>
   rw[hs]at HP
   refine wk ?_
   go_ret
   exact⟨by rw[HP.out];rfl,U⟩
  |true=>
   rw[hs]at HP
   cases q3 with
   |false=>
    refine wk ?_
    go_ret
    exact⟨by rw[HP.out];rfl,U⟩
   |true=>
    refine wk ?_
    go_ret
    exact⟨by rw[HP.out];simp,U⟩
def dI(me n p:Int)(l:List Int):List Value:=[Value.int .i64 me,.int .i64 n,.int .i64 p]++l.map (Value.int .i64)
def iA(me n p:Int)(l:List Int):Value:=.agg (dI me n p l).toArray
def ui(w:World)(g:Nat)(me n p:Int)(l:List Int):Prop:=ak w g 61 (dI me n p l).toArray∧l.length=7
theorem iB{me n p:Int}{l:List Int}(h:l.length=7):(dI me n p l).length=10:=by unfold dI;simp[h]
theorem uj(me n p:Int)(l:List Int):(dI me n p l).all (·.oneCell')=true:=by
 unfold dI
 rw[all_append,Bool.and_eq_true]
 refine⟨rfl,?_⟩
 rw[all_eq_true]
 intro u hu
 obtain⟨_,_,rfl⟩:=mem_map.1 hu
 rfl
theorem ui.cell{w:World}{g:Nat}{me n p:Int}{l:List Int}(h:ui w g me n p l){i:Nat}(hi:i<l.length):w.cell? ⟨g,3+i,none⟩=some (.int .i64 l[i]):=by
 rw[h.1.cell (3+i),Nat.add_comm 3 i]
 simp[dI,hi]
theorem ui.set{w:World}{g:Nat}{me n p:Int}{l:List Int}(h:ui w g me n p l)(i:Nat)(v:Int):ui (w.setCell ⟨g,3+i,none⟩ (.int .i64 v)) g me n p (l.set i v):=by
 refine⟨?_,by rw[length_set];exact h.2⟩
 have:=h.1.aO (3+i) (.int .i64 v)
 rw[Nat.add_comm 3 i]at this ⊢
 simpa[dI,map_set]using this
theorem zQ:∃i,prog.info? 61=some i∧i.size=10:=⟨_,rfl,by kernel_rfl⟩
structure oV(p:Prop):Prop where
 out:p
theorem Oy(w:World)(me n p:Int)(l:List Int)(hl:l.length=7)(hn:n≤7)(x:Int) :
  Calls prog 142 #[iA me n p l,.int .i64 x] w fun e w'=>e=.returned (iA me n p (if bz x n then l.set x.toNat 0 else l))∧aa [] [] w w':=by
 obtain⟨ii,hii,abx⟩:=zQ
 obtain⟨W,H,eW,hH,hB,U0⟩:=az w 61 (dI me n p l).toArray
 obtain⟨W2,G,fu,hG,hBG,U2⟩:=az W 61 #[.int .i64 0,.int .i64 0,.int .i64 0,.int .i64 0,.int .i64 0,.int .i64 0,.int .i64 0,.int .i64 0,.int .i64 0,.int .i64 0]
 have aK:aa [] [] w W2:=U0.g0.trans U2.g0
 have hs0:=U0.size
 have hB2:ui W2 H me n p l:=⟨hB.upd U2,hl⟩
 have q1:W2.cell? ⟨H,1,none⟩=some (.int .i64 n):=hB2.1.cell 1
 have hne:G≠H:=by have:=hB.lt;omega
 have C:=oU W2 x n
 have aR:∀k∈[G],w.heap.size≤k:=ge1
 have hHw:∀k∈[H],w.heap.size≤k:=ge1
 have fin:∀(W3:World)(l':List Int),ui W3 H me n p l'→ak W3 G 61 #[.int .i64 0,.int .i64 0,.int .i64 0,.int .i64 0,.int .i64 0,.int .i64 0,.int .i64 0,.int .i64 0,.int .i64 0,.int .i64 0]→ii.size=(dI me n p l').length:=fun W3 l' h _=>by rw[iB h.2];exact abx
 obtain⟨F,hF⟩:=ex1 ((if bz x n then l.set x.toNat 0 else l))
 have HF:=hdn hF
 rw[hF]
 clear hF
 unfold iA
 go_enter func142,ntmps142
 repeat' go_step
 refine C.mono ?_;rintro e w1 ⟨rfl,rfl⟩
 clear C
 cases hi:bz x n with
 |true=>
  have hx:0≤x∧x<n:=by unfold bz at hi;simpa using hi
  obtain⟨j,rfl⟩:∃j:Nat,x=(j:Int):=⟨x.toNat,by omega⟩
  have hj7:(j:Int)<7:=by omega
  have hjl:j<l.length:=by omega
  obtain⟨z,hc⟩:∃z,W2.cell? ⟨H,3+j,none⟩=some z:=⟨_,hB2.cell hjl⟩
  have hf:=hB2.1.frozen (3+j)
  obtain⟨W3,hW3⟩:=ex1 (W2.setCell ⟨H,3+j,none⟩ (.int .i64 0))
  have dQ:F=l.set j 0:=by rw[←HF.out,hi];rfl
  have hB3:ui W3 H me n p F:=by rw[←hW3,dQ];exact hB2.set j 0
  have u3:aa [H] [H] W2 W3:=by rw[←hW3];exact(aa.refl [H] W2).setCell (p:=⟨H,3+j,none⟩) (.inl (by simp)) _
  have hG3:=hBG.upd u3 (by simpa using hne)
  have U3:=aK.aB hHw u3
  have hsz:ii.size=(dI me n p F).length:=by rw[iB hB3.2];exact abx
  clear hi dQ hx
  repeat' (fail_if_success with_reducible refine ek (t:=61) rfl ?_);first|go_values|go_skip|go_guarded|go_step|go_upon|simp only[];go_at_K
  refine eZ rfl _ 61 rfl hii (fun _=>rfl) rfl (dI me n p F) hsz hB3.1 ?_
  repeat' (fail_if_success with_reducible refine eT (t:=61) rfl ?_);first|go_values|go_skip|go_guarded|go_step|go_upon|simp only[];go_at_K
  refine di rfl _ _ 61 rfl hii rfl (dI me n p F) rfl hsz hG3 (by rw[iB hB3.2];rfl) (uj me n p F) ?_
  intro W5 gF u5
  refine wk ?_
  exact bodyPost_ret (fK (s:=4) (t:=61) (by rw[results142]) rfl hii (fun _=>rfl) (dI me n p F) hsz gF) rfl ⟨rfl,U3.aB aR u5⟩
 |false=>
  have dQ:F=l:=by rw[←HF.out,hi];rfl
  subst dQ
  have hsz:ii.size=(dI me n p F).length:=by rw[iB hB2.2];exact abx
  clear hi
  repeat' (fail_if_success with_reducible refine ek (t:=61) rfl ?_);first|go_values|go_skip|go_guarded|go_step|go_upon|simp only[];go_at_K
  refine eZ rfl _ 61 rfl hii (fun _=>rfl) rfl (dI me n p F) hsz hB2.1 ?_
  repeat' (fail_if_success with_reducible refine eT (t:=61) rfl ?_);first|go_values|go_skip|go_guarded|go_step|go_upon|simp only[];go_at_K
  refine di rfl _ _ 61 rfl hii rfl (dI me n p F) rfl hsz hBG (by rw[iB hB2.2];rfl) (uj me n p F) ?_
  intro W5 gF u5
  refine wk ?_
  exact bodyPost_ret (fK (s:=4) (t:=61) (by rw[results142]) rfl hii (fun _=>rfl) (dI me n p F) hsz gF) rfl ⟨rfl,aK.aB aR u5⟩
theorem Ll(w:World)(me:Int)(n:Nat)(p:Int)(l:List Int)(hl:l.length=7)(hn:n≤7)(x:Int) :
  Calls prog 221 #[iA me n p l,.int .i64 x] w fun e w'=>e=.returned (.int .i64 (if bz x n then l.getD x.toNat 0 else 0))∧aa [] [] w w':=by
 obtain⟨W,H,eW,hH,hB,U0⟩:=az w 61 (dI me n p l).toArray
 have hB2:ui W H me n p l:=⟨hB,hl⟩
 have q1:W.cell? ⟨H,1,none⟩=some (.int .i64 (n:Int)):=hB2.1.cell 1
 have C:=oU W x (n:Int)
 have U:=U0.g0
 obtain⟨F,hF⟩:=ex1 ((if bz x n then l.getD x.toNat 0 else 0))
 have HF:=hdn hF
 rw[hF]
 clear hF
 unfold iA
 go_enter func221,ntmps221
 repeat' go_step
 refine C.mono ?_;rintro e w1 ⟨rfl,rfl⟩
 clear C
 cases hi:bz x n with
 |true=>
  have hx:0≤x∧x<n:=by unfold bz at hi;simpa using hi
  obtain⟨j,rfl⟩:∃j:Nat,x=(j:Int):=⟨x.toNat,by omega⟩
  have hj7:(j:Int)<7:=by omega
  have hjl:j<l.length:=by omega
  have dQ:l[j]=F:=by
   rw[←HF.out,hi,List.getD_eq_getElem?_getD,Int.toNat_natCast,List.getElem?_eq_getElem hjl];rfl
  have hc:=hB2.cell hjl
  rw[dQ]at hc
  clear hi dQ hx HF
  refine wk ?_
  go_ret
  exact⟨rfl,U⟩
 |false=>
  have dQ:F=0:=by rw[←HF.out,hi];rfl
  subst dQ
  clear hi HF
  refine wk ?_
  go_ret
  exact⟨rfl,U⟩
theorem Lm(w:World)(me:Int)(n:Nat)(p:Int)(l:List Int)(hl:l.length=7)(hn:n≤7) :
  Calls prog 220 #[iA me n p l] w fun e w'=>e=.returned (.int .i64 (iP p (l.take n) 0))∧aa [] [] w w':=by
 obtain⟨W,H,eW,hH,hB,U0⟩:=az w 61 (dI me n p l).toArray
 have hB2:ui W H me n p l:=⟨hB,hl⟩
 have q1:W.cell? ⟨H,1,none⟩=some (.int .i64 (n:Int)):=hB2.1.cell 1
 have q2:W.cell? ⟨H,2,none⟩=some (.int .i64 p):=hB2.1.cell 2
 have dm:=U0.g0
 have hc:=fun i hi=>hB2.cell (i:=i) hi
 have HC:=hdn hc
 clear hc hB2 hB
 obtain⟨R,hR⟩:=ex1 (iP p (l.take n) 0)
 rw[hR]
 have HR:=hdn hR
 clear hR
 unfold iA
 go_enter func220,ntmps220
 repeat' go_step
 go_loopw [3] (fun v10 wr=>oV (∃i:Nat,i≤n∧v10=.int .i64 (i:Int)∧iP p ((l.take n).drop i) i=R∧aa [] [] W wr)) (fun v10 _=>n-(intOf v10).toNat)
 case atStart=>exact oV.mk ⟨0,by omega,rfl,HR.out,aa.refl _ _⟩
 case round=>
  obtain⟨i,hi,rfl,hr,U⟩:=hrel.out
  clear hrel
  have H1:=hdn hr
  clear hr HR
  have q1':=U.cell q1 (by simp)
  by_cases hlt:i<n
  ·have hil:(i:Int)<(n:Int):=by omega
   have Wu:(i:Int)<7:=by omega
   have hw1:=aA.wr ((i:Int)+1)
   have c1:=fun N=>(U.drewN N).cell (HC.out i (by omega)) (by simp)
   have c2:=fun N=>(U.drewN N).cell q2 (by simp)
   have hd:(l.take n).drop i=l[i]::(l.take n).drop (i+1):=by
    rw[drop_eq_getElem_cons (by rw[length_take];omega)];simp
   have HD:=hdn hd
   clear hd
   by_cases hs:l[i]≤p
   ·have d1:decide (l[i]≤p)=true:=dTx hs
    repeat' go_step
    go_quiet (fail)
    refine wk ?_
    go_ret
    exact⟨by rw[←H1.out,HD.out,iP,if_pos hs];rfl,dm.trans (U.drewN _)⟩
   ·have d1:decide (l[i]≤p)=false:=dFx hs
    repeat' go_step
    go_quiet (fail)
    refine wk ?_
    exact⟨oV.mk ⟨i+1,by omega,rfl,by rw[←H1.out,HD.out,iP,if_neg hs],U.drewN _⟩,by simp[intOf];omega⟩
  ·have hil:¬ ((i:Int)<(n:Int)):=by omega
   have he:R= -1:=by rw[←H1.out,drop_eq_nil_of_le (by rw[length_take];omega),iP]
   have HE:=hdn he
   clear he H1
   refine wk ?_
   go_ret
   exact⟨by rw[HE.out];rfl,dm.trans U⟩
theorem QP(w:World)(me n:Nat)(p:Int)(l:List Int)(hl:l.length=7)(hn:n≤7)(hx:∀x∈l,0≤x) :
  Calls prog 144 #[iA me n p l] w fun e w'=>e=.returned (iA me n p (bu me l n))∧aa [] [] w w':=by
 obtain⟨ii,hii,abx⟩:=zQ
 obtain⟨W,H,eW,hH,hB,U0⟩:=az w 61 (dI me n p l).toArray
 obtain⟨W2,G,fu,hG,hBG,U2⟩:=az W 61 #[.int .i64 0,.int .i64 0,.int .i64 0,.int .i64 0,.int .i64 0,.int .i64 0,.int .i64 0,.int .i64 0,.int .i64 0,.int .i64 0]
 have aK:aa [] [] w W2:=U0.g0.trans U2.g0
 have hs0:=U0.size
 have hB2:ui W2 H me n p l:=⟨hB.upd U2,hl⟩
 have hne:G≠H:=by have:=hB.lt;omega
 have aR:∀k∈[G],w.heap.size≤k:=ge1
 have hHw:∀k∈[H],w.heap.size≤k:=ge1
 unfold iA
 go_enter func144,ntmps144
 repeat' go_step
 go_loopw [3] (fun v3 wr=>oV (∃i:Nat,i≤n∧v3=.int .i64 (i:Int)∧ui wr H me n p (bu me l i)∧aa [H] [H] W2 wr∧ak wr G 61 #[.int .i64 0,.int .i64 0,.int .i64 0,.int .i64 0,.int .i64 0,.int .i64 0,.int .i64 0,.int .i64 0,.int .i64 0,.int .i64 0])) (fun v3 _=>n-(intOf v3).toNat)
 case atStart=>exact oV.mk ⟨0,by omega,rfl,hB2,aa.refl _ _,hBG⟩
 case round=>
  obtain⟨i,hi,rfl,hr,U,kG⟩:=hrel.out
  clear hrel
  have q1:wr.cell? ⟨H,1,none⟩=some (.int .i64 (n:Int)):=hr.1.cell 1
  by_cases hlt:i<n
  ·have hil:(i:Int)<(n:Int):=by omega
   have Wu:(i:Int)<7:=by omega
   have hw1:=aA.wr ((i:Int)+1)
   have hlen:i<(bu me l i).length:=by rw[yC];omega
   have hat:(bu me l i)[i]=l.getD i 0:=by
    have:=wY me l i i (Nat.le_refl _)
    rw[List.getD_eq_getElem?_getD,List.getElem?_eq_getElem hlen]at this
    exact this
   obtain⟨y,hy⟩:=ex1 (l.getD i 0)
   have hy0:0≤y:=by
    rw[←hy,List.getD_eq_getElem?_getD,List.getElem?_eq_getElem (by omega)]
    exact hx _ (getElem_mem _)
   have hc:wr.cell? ⟨H,3+i,none⟩=some (.int .i64 y):=by rw[hr.cell hlen,hat,hy]
   have hf:=hr.1.frozen (3+i)
   have p0:wr.cell? ⟨H,0,none⟩=some (.int .i64 (me:Int)):=hr.1.cell 0
   have HG:=hdn (show bu me l (i+1)=if(i:Int)≠me∧y<1000000 then(bu me l i).set i (y+1)else bu me l i by rw[bu,hy])
   clear hat hy hlen
   cases hm:((i:Int) != (me:Int)) with
   |false=>
    have hG:bu me l (i+1)=bu me l i:=by rw[HG.out,if_neg (fun hh=>by have:=hh.1;simp at hm;omega)]
    have KEY:=hdn (show ui wr H me n p (bu me l (i+1)) by rw[hG];exact hr)
    clear hG hr HG
    refine wk ?_
    exact⟨oV.mk ⟨i+1,by omega,by simp,KEY.out,U,kG⟩,by simp[intOf];omega⟩
   |true=>
    have hnm:(i:Int)≠me:=by simpa using hm
    by_cases hy1:y<1000000
    ·have d1:decide (y<1000000)=true:=dTx hy1
     have hw2:=aA.wr (y+1)
     have hG:bu me l (i+1)=(bu me l i).set i (y+1):=by rw[HG.out,if_pos ⟨hnm,hy1⟩]
     clear hnm
     have u2:aa [H] [H] wr (wr.setCell ⟨H,3+i,none⟩ (.int .i64 (y+1))):=(aa.refl [H] wr).setCell (p:=⟨H,3+i,none⟩) (.inl (by simp)) _
     have KEY:=hdn (show ui (wr.setCell ⟨H,3+i,none⟩ (.int .i64 (y+1))) H me n p (bu me l (i+1)) by rw[hG];exact hr.set i (y+1))
     have UU:=hdn (U.trans u2)
     have u3:=hdn u2
     clear hG hr HG u2 U
     refine wk ?_
     exact⟨oV.mk ⟨i+1,by omega,by simp,KEY.out,UU.out,kG.upd u3.out (by simpa using hne)⟩,by simp[intOf];omega⟩
    ·have d1:decide (y<1000000)=false:=dFx hy1
     have hG:bu me l (i+1)=bu me l i:=by rw[HG.out,if_neg (fun hh=>hy1 hh.2)]
     have KEY:=hdn (show ui wr H me n p (bu me l (i+1)) by rw[hG];exact hr)
     clear hG hr HG
     refine wk ?_
     exact⟨oV.mk ⟨i+1,by omega,by simp,KEY.out,U,kG⟩,by simp[intOf];omega⟩
  ·obtain rfl:i=n:=by omega
   have hil:¬ ((i:Int)<(i:Int)):=by omega
   have hsz:ii.size=(dI me i p (bu me l i)).length:=by rw[iB hr.2];exact abx
   repeat' (fail_if_success with_reducible refine ek (t:=61) rfl ?_);first|go_values|go_skip|go_guarded|go_step|go_upon|simp only[];go_at_K
   refine eZ rfl _ 61 rfl hii (fun _=>rfl) rfl (dI me i p (bu me l i)) hsz hr.1 ?_
   repeat' (fail_if_success with_reducible refine eT (t:=61) rfl ?_);first|go_values|go_skip|go_guarded|go_step|go_upon|simp only[];go_at_K
   refine di rfl _ _ 61 rfl hii rfl (dI me i p (bu me l i)) rfl hsz kG (by rw[iB hr.2];rfl) (uj me i p _) ?_
   intro W5 gF u5
   refine wk ?_
   exact bodyPost_ret (fK (s:=2) (t:=61) (by rw[results144]) rfl hii (fun _=>rfl) (dI me i p (bu me l i)) hsz gF) rfl ⟨rfl,(aK.aB hHw U).aB aR u5⟩
theorem IB(w:World)(me n p:Int):Calls prog 79 #[.int .i64 me,.int .i64 n,.int .i64 p] w fun e w'=>
  e=.returned (.tuple #[if fB me n p then iA me n p [0,0,0,0,0,0,0]else iA 0 0 0 [0,0,0,0,0,0,0],.int .i64 (if fB me n p then 0 else 1)])∧aa [] [] w w':=by
 obtain⟨ii,hii,abx⟩:=zQ
 obtain⟨W,G,eW,hG,hBG,U0⟩:=az w 61 #[.int .i64 0,.int .i64 0,.int .i64 0,.int .i64 0,.int .i64 0,.int .i64 0,.int .i64 0,.int .i64 0,.int .i64 0,.int .i64 0]
 have aK:=U0.g0
 have C:=oU W me n
 obtain⟨⟨g0,g1,g2,g3,g4,g5,g6,g7,g8,g9⟩,l0,l1,l2,l3,l4,l5,l6,l7,l8,l9⟩:=hBG.c10
 have fin:=fun(a b c:Int)=>dM (w:=w) [.int .i64 a,.int .i64 b,.int .i64 c,.int .i64 0,.int .i64 0,.int .i64 0,.int .i64 0,.int .i64 0,.int .i64 0,.int .i64 0] hBG rfl aK (.inr (by omega))
 simp only[setRow]at fin
 obtain⟨T,hT⟩:=ex1 (fB me n p)
 have HT:=hdn hT
 rw[hT]
 clear hT
 go_enter func79,ntmps79
 have bad:∀{q:Prop},(T=false→q)→(¬ (1≤n∧n≤7∧0≤me∧me<n∧1≤p∧p≤1000))→q:=fun {q} hq hn=>hq (by
  rw[←HT.out,Bool.eq_false_iff]
  intro h
  simp only[fB,Bool.and_eq_true,decide_eq_true_eq]at h
  exact hn (by omega))
 by_cases h1:n<1
 ·have d1:decide (n<1)=true:=dTx h1
  obtain⟨hf,hu⟩:=fin 0 0 0
  obtain⟨⟨y0,y1,y2,y3,y4,y5,y6,y7,y8,y9⟩,-⟩:=hf.c10
  clear hf
  refine bad (fun hT=>?_) (by omega)
  subst hT
  refine wk ?_
  exact bodyPost_ret (v:=.tuple #[iA 0 0 0 [0,0,0,0,0,0,0],.int .i64 1]) (by simp[results,results79,go_sem,iA,dI,y0,y1,y2,y3,y4,y5,y6,y7,y8,y9]) rfl ⟨rfl,hu⟩
 have d1:decide (n<1)=false:=dFx h1
 by_cases h2:7<n
 ·have d2:decide (7<n)=true:=dTx h2
  obtain⟨hf,hu⟩:=fin 0 0 0
  obtain⟨⟨y0,y1,y2,y3,y4,y5,y6,y7,y8,y9⟩,-⟩:=hf.c10
  clear hf
  refine bad (fun hT=>?_) (by omega)
  subst hT
  refine wk ?_
  exact bodyPost_ret (v:=.tuple #[iA 0 0 0 [0,0,0,0,0,0,0],.int .i64 1]) (by simp[results,results79,go_sem,iA,dI,y0,y1,y2,y3,y4,y5,y6,y7,y8,y9]) rfl ⟨rfl,hu⟩
 have d2:decide (7<n)=false:=dFx h2
 repeat' first|go_guarded|go_step
 refine C.mono ?_;rintro e w1 ⟨rfl,rfl⟩
 clear C
 cases h3:bz me n with
 |false=>
  obtain⟨hf,hu⟩:=fin 0 0 0
  obtain⟨⟨y0,y1,y2,y3,y4,y5,y6,y7,y8,y9⟩,-⟩:=hf.c10
  clear hf
  refine bad (fun hT=>?_) (by unfold bz at h3;simp only[Bool.and_eq_false_iff,decide_eq_false_iff_not]at h3;omega)
  subst hT
  refine wk ?_
  exact bodyPost_ret (v:=.tuple #[iA 0 0 0 [0,0,0,0,0,0,0],.int .i64 1]) (by simp[results,results79,go_sem,iA,dI,y0,y1,y2,y3,y4,y5,y6,y7,y8,y9]) rfl ⟨rfl,hu⟩
 |true=>
  have h3':0≤me∧me<n:=by unfold bz at h3;simpa using h3
  by_cases h4:p<1
  ·have d4:decide (p<1)=true:=dTx h4
   obtain⟨hf,hu⟩:=fin 0 0 0
   obtain⟨⟨y0,y1,y2,y3,y4,y5,y6,y7,y8,y9⟩,-⟩:=hf.c10
   clear hf
   refine bad (fun hT=>?_) (by omega)
   subst hT
   refine wk ?_
   exact bodyPost_ret (v:=.tuple #[iA 0 0 0 [0,0,0,0,0,0,0],.int .i64 1]) (by simp[results,results79,go_sem,iA,dI,y0,y1,y2,y3,y4,y5,y6,y7,y8,y9]) rfl ⟨rfl,hu⟩
  have d4:decide (p<1)=false:=dFx h4
  by_cases h5:1000<p
  ·have d5:decide (1000<p)=true:=dTx h5
   obtain⟨hf,hu⟩:=fin 0 0 0
   obtain⟨⟨y0,y1,y2,y3,y4,y5,y6,y7,y8,y9⟩,-⟩:=hf.c10
   clear hf
   refine bad (fun hT=>?_) (by omega)
   subst hT
   refine wk ?_
   exact bodyPost_ret (v:=.tuple #[iA 0 0 0 [0,0,0,0,0,0,0],.int .i64 1]) (by simp[results,results79,go_sem,iA,dI,y0,y1,y2,y3,y4,y5,y6,y7,y8,y9]) rfl ⟨rfl,hu⟩
  have d5:decide (1000<p)=false:=dFx h5
  obtain rfl:T=true:=by
   rw[←HT.out]
   simp only[fB,Bool.and_eq_true,decide_eq_true_eq]
   omega
  clear fin bad HT g0 g1 g2 g3 g4 g5 g6 g7 g8 g9 l0 l1 l2 l3 l4 l5 l6 l7 l8 l9
  repeat' (fail_if_success with_reducible refine eT (t:=61) rfl ?_);first|go_values|go_skip|go_guarded|go_step|go_upon|simp only[];go_at_K
  refine di rfl _ _ 61 rfl hii rfl (dI me n p [0,0,0,0,0,0,0]) rfl abx hBG rfl rfl ?_
  intro W5 gF u5
  refine wk ?_
  exact bodyPost_ret (jZ (s:=6) (u:=7) (t:=61) (by rw[results79]) rfl hii (fun _=>rfl) (dI me n p [0,0,0,0,0,0,0]) abx gF) rfl ⟨rfl,aK.aB (X:=[G]) (by simp only[mem_singleton];rintro k rfl;omega) u5⟩
theorem qE(n:Int)(w:World):Calls prog 132 #[.int .i64 n,.int .i64 7] w fun e w'=>(∃v,e=.returned (.bool v)∧(v=true ↔ 0≤n∧n≤6))∧w=w':=by
 go_enter func132,ntmps132
 repeat' first|go_skip|go_guarded|go_step
 all_goals go_ret
 all_goals refine⟨⟨_,rfl,?_⟩,rfl⟩
 all_goals first
  |(simp only[Bool.false_eq_true,false_iff];omega)
  |(simp only[decide_eq_true_eq];omega)
  |(simp only[true_iff];omega)
theorem Jh(r s:Int)(w:World):Calls prog 209 #[.agg #[.int .i64 r,.int .i64 s],.int .i64 7] w fun e w'=>(∃v,e=.returned (.bool v)∧(v=true ↔ (0≤r∧r≤1099511627776)∧0≤s∧s≤6))∧aa [] [] w w':=by
 have hU:=fun o=>(aa.refl [] w).alloc o
 go_enter func209,ntmps209
 repeat' first|go_skip|go_guarded|go_step
 any_goals ((with_reducible refine(qE _ _).mono ?_);rintro e w1 ⟨⟨v,rfl,hv⟩,rfl⟩;refine wk ?_)
 all_goals go_ret
 all_goals refine⟨⟨_,rfl,?_⟩,hU _⟩
 all_goals first
  |(simp only[Bool.false_eq_true,false_iff];omega)
  |(rw[hv];omega)
theorem Us(x:Mv)(w:World)(hr:aD w x.A x.n x.b) :
  Calls prog 141 #[x.val] w fun e w'=>(∃v,e=.returned (.bool v)∧(v=true ↔ x.ms.May))∧aa [] [] w w':=by
 obtain⟨k,f,t,s,br,bs,hr',hs,so,A,n,c,b⟩:=x
 have hn:=hr.len
 simp only at hn
 have eqz:=fun w=>mR hr' hs 0 0 w
 have U0:=(aa.refl [] w).alloc (.cells #[.int .i64 k,.int .i64 f,.int .i64 t,.int .i64 s,.int .i64 br,.int .i64 bs,.int .i64 hr',.int .i64 hs,.bool so,.slice A n c] 32)
 have hX:=ak.new w 32 #[.int .i64 k,.int .i64 f,.int .i64 t,.int .i64 s,.int .i64 br,.int .i64 bs,.int .i64 hr',.int .i64 hs,.bool so,.slice A n c]
 have hM:(⟨k,f,t,s,br,bs,hr',hs,so,A,n,c,b⟩:Mv).ms.May ↔ (1≤k∧k≤8)∧(0≤f∧f≤6)∧(0≤t∧t≤6)∧(0≤s∧s≤4095)∧((0≤br∧br≤1099511627776)∧0≤bs∧bs≤6)∧((0≤hr'∧hr'≤1099511627776)∧0≤hs∧hs≤6)∧(n:Int)≤2048∧(so=true∨(hr'=0∧hs=0)∧(n:Int)=0):=by
  constructor
  ·rintro⟨h1,h2,h3,h4,h5,h6,h7,h8,h9,h10⟩
   simp only[Mv.ms]at h1 h2 h3 h4 h5 h6 h7 h8 h9 h10
   refine⟨h1,h2,h3,h4,⟨h5,h6⟩,⟨h7,h8⟩,by omega,?_⟩
   rcases h10 with h|⟨h,h'⟩
   ·exact .inl h
   ·exact .inr ⟨h,by omega⟩
  ·rintro⟨h1,h2,h3,h4,⟨h5,h6⟩,⟨h7,h8⟩,h9,h10⟩
   refine⟨h1,h2,h3,h4,h5,h6,h7,h8,by simp only[Mv.ms];omega,?_⟩
   rcases h10 with h|⟨h,h'⟩
   ·exact .inl h
   ·exact .inr ⟨h,by simp only[Mv.ms];omega⟩
 have HM:=hdn hM
 clear hM hr hn
 rw[Mv.aH]
 go_enter func141,ntmps141
 repeat' first|go_skip|go_guarded|go_step
 any_goals ((with_reducible refine(qE _ _).mono ?_);rintro e w1 ⟨⟨v,rfl,hv1⟩,rfl⟩;cases v<;>simp only[Bool.false_eq_true,false_iff,true_iff]at hv1<;>repeat' (first|go_guarded|go_step|simp only[];go_at_K))
 any_goals ((with_reducible refine(qE _ _).mono ?_);rintro e w1 ⟨⟨v,rfl,hv2⟩,rfl⟩;cases v<;>simp only[Bool.false_eq_true,false_iff,true_iff]at hv2<;>repeat' (first|go_guarded|go_step|simp only[];go_at_K))
 any_goals ((with_reducible refine(Jh _ _ _).mono ?_);rintro e w1 ⟨⟨v,rfl,hv3⟩,hu1⟩;have U1:=U0.trans hu1;have hX1:=hX.upd hu1;clear U0 hX hu1;obtain⟨⟨q0,q1,q2,q3,q4,q5,q6,q7,q8,q9⟩,-⟩:=hX1.c10;cases v<;>simp only[Bool.false_eq_true,false_iff,true_iff]at hv3<;>repeat' (first|go_guarded|go_step|simp only[];go_at_K))
 any_goals ((with_reducible refine(Jh _ _ _).mono ?_);rintro e w2 ⟨⟨v,rfl,hv4⟩,hu2⟩;have U2:=U1.trans hu2;have hX2:=hX1.upd hu2;clear U1 hX1 hu2 q0 q1 q2 q3 q4 q5 q6 q7 q8 q9;obtain⟨⟨q0,q1,q2,q3,q4,q5,q6,q7,q8,q9⟩,-⟩:=hX2.c10;cases v<;>simp only[Bool.false_eq_true,false_iff,true_iff]at hv4<;>repeat' (first|go_skip|go_guarded|go_step|simp only[];go_at_K))
 all_goals go_ret
 all_goals refine⟨⟨_,rfl,?_⟩,by first|exact U2|exact U1|exact U0⟩
 all_goals refine Iff.trans ?_ HM.out.symm
 all_goals clear HM eqz
 all_goals (cases so<;>(try contradiction)<;>(try simp only[Bool.false_eq_true,false_iff,true_iff,false_or,true_or,and_true,Bool.and_eq_true,beq_iff_eq,decide_eq_true_eq])<;>omega)
