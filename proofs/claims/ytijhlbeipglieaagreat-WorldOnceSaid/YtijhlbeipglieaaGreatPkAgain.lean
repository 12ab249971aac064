/- Merged: PlainAg, PlainKeys, LayRounds, KeysR, SiteAg. -/
import Derived.Lib.SlKeysI
import Derived.Shelf.SlIterI.Nil
import Derived.Shelf.SortM.Plain
import Derived.Shelf.SortM.SortNone
import Derived.Ground.GgzProg
import Derived.Ground.SlgmProg
import Derived.Shelf.SlGeneric
import Derived.Test.YtijhlbeipglieaaGreatPkSu
import Derived.Test.YtijhlbeipglieaaGreatPkSiteP
set_option linter.all false
set_option maxHeartbeats 4000000
set_option maxRecDepth 100000
namespace Agio
open Go Go.Proofs.YtijhlbeipglieaaGreat
theorem lookG_mem {α:Type} {L:AL α} (h:L.Pairwise fun p q=>p.1 < q.1) {x:Int} {r:α} (hm:(x,r)∈L):lookG x L=some r:=by
  cases hl:lookG x L with
  | none=>exact absurd rfl (lookG_none.1 hl _ hm)
  | some z=>rw [sorted_one h (lookG_some hl) hm]
theorem putG_mid {α:Type} {A B:AL α} {x:Int} {r v:α} (h:(A ++ (x,r) :: B).Pairwise fun p q=>p.1 < q.1):putG x v (A ++ (x,r) :: B)=A ++ (x,v) :: B:=by
  rw [putG_set h ⟨r,by simp⟩,List.map_append,List.map_cons,if_pos rfl]
  have h2:=List.pairwise_append.1 h
  have h3:=List.pairwise_cons.1 h2.2.1
  congr 1
  · refine (List.map_congr_left fun p hp=>?_).trans (List.map_id A)
    have:=h2.2.2 p hp (x,r) (by simp)
    simp only at this
    rw [if_neg (by omega)];rfl
  · congr 1
    refine (List.map_congr_left fun p hp=>?_).trans (List.map_id B)
    have:=h3.1 p hp
    simp only at this
    rw [if_neg (by omega)];rfl
namespace Site
variable (s:Site)
def ager (p:Int × Rn):Int × Rn:=(p.1,{p.2 with age:=p.2.age + 1})
def againN (i:Nat):Site:={s with rs:=(s.rs.take i).map ager ++ s.rs.drop i,held:=s.held ++ (s.rs.take (min i 8)).flatMap fun p=>s.tell (asks p.2 p.1) s.n}
theorem again_fold (l:AL Rn):∀u:Site,u.me=s.me→u.n=s.n→l.foldl (fun u p=>u.others (asks p.2 p.1) u.n) u= {u with held:=u.held ++ l.flatMap fun p=>s.tell (asks p.2 p.1) s.n}:=by
  induction l with
  | nil=>intro u _ _;simp
  | cons p r ih=>
    intro u hm hn
    rw [List.foldl_cons,others_eq,ih {u with held:=u.held ++ u.tell (asks p.2 p.1) u.n} hm hn,List.flatMap_cons,←List.append_assoc]
    have:u.tell (asks p.2 p.1) u.n=s.tell (asks p.2 p.1) s.n:=by unfold tell;rw [hm,hn]
    rw [this]
theorem again_eq:s.again=s.againN s.rs.length:=by
  unfold again againN
  rw [again_fold s _ {s with rs:=mapG (fun r=>{r with age:=r.age + 1}) s.rs} rfl rfl,List.take_length,List.drop_length,List.append_nil]
  have:s.rs.take (min s.rs.length 8)=s.rs.take 8:=by
    rcases Nat.le_total s.rs.length 8 with h | h
    · rw [Nat.min_eq_left h,List.take_length,List.take_of_length_le h]
    · rw [Nat.min_eq_right h]
  rw [this]
  rfl
theorem againN_zero:s.againN 0=s:=by unfold againN;simp
theorem againN_old {i:Nat} (_h:i < s.rs.length): {s.againN i with rs:=(s.rs.take (i + 1)).map ager ++ s.rs.drop (i + 1)} =if i < 8 then {s.againN (i + 1) with held:=(s.againN i).held} else s.againN (i + 1):=by
  split
  · rfl
  · unfold againN
    rw [show min (i + 1) 8=8 by omega,show min i 8=8 by omega]
theorem againN_ask {i:Nat} (h:i < s.rs.length) (h8:i < 8):({s.againN i with rs:=(s.rs.take (i + 1)).map ager ++ s.rs.drop (i + 1)} :Site).others (asks s.rs[i].2 s.rs[i].1) s.n=s.againN (i + 1):=by
  rw [others_eq]
  unfold againN
  rw [show min (i + 1) 8=i + 1 by omega,show min i 8=i by omega,List.take_succ_eq_append_getElem h,List.flatMap_append]
  simp only [List.flatMap_cons,List.flatMap_nil,List.append_nil,List.append_assoc]
  rfl
theorem againN_put {i:Nat} (hi:i < s.rs.length) (hs:(s.againN i).rs.Pairwise fun p q=>p.1 < q.1):putG s.rs[i].1 (ager s.rs[i]).2 (s.againN i).rs=(s.rs.take (i + 1)).map ager ++ s.rs.drop (i + 1)∧lookG s.rs[i].1 (s.againN i).rs=some s.rs[i].2:=by
  have e:(s.againN i).rs=(s.rs.take i).map ager ++ (s.rs[i].1,s.rs[i].2) :: s.rs.drop (i + 1):=by
    show _ ++ _=_
    rw [List.drop_eq_getElem_cons hi]
  rw [e] at hs ⊢
  refine ⟨?_,lookG_mem hs (by simp)⟩
  rw [putG_mid hs,List.take_succ_eq_append_getElem hi,List.map_append]
  simp [ager]
theorem againN_held (i:Nat):(s.againN i).held.length≤s.held.length + 8 * s.n:=by
  unfold againN
  show (s.held ++ _).length≤_
  rw [List.length_append,List.length_flatMap]
  have:∀l:AL Rn,(l.map fun p=>(s.tell (asks p.2 p.1) s.n).length).sum≤l.length * s.n:=by
    intro l
    induction l with
    | nil=>simp
    | cons p r ih=>
      have:=s.tell_len (asks p.2 p.1) s.n
      rw [List.map_cons,List.sum_cons,List.length_cons,Nat.add_mul];omega
  have h1:=this (s.rs.take (min i 8))
  have h2:(s.rs.take (min i 8)).length≤8:=by rw [List.length_take];omega
  have h3:=Nat.mul_le_mul_right s.n h2
  omega
end Site
end Agio
namespace Agio
open Go Go.RowKit Go.Maps
abbrev Up (l:List Int):Prop:=l.Pairwise fun a b=>a < b
theorem sort_up {ss ks:List Int} (hp:ss.Perm ks) (hk:Up ks):ss.mergeSort (fun x y=>decide (x≤y))=ks:=by
  have h1:(ss.mergeSort (fun x y=>decide (x≤y))).Pairwise fun a b=>decide (a≤b)=true:=
    List.pairwise_mergeSort (fun a b c h1 h2=>by simp only [decide_eq_true_eq] at *;omega) (fun a b=>by simp only [Bool.or_eq_true,decide_eq_true_eq];omega) ss
  refine List.Perm.eq_of_pairwise (le:=fun a b=>decide (a≤b)=true) (fun a b _ _ h1 h2=>by simp only [decide_eq_true_eq] at h1 h2;omega) h1 (hk.imp fun h=>by simp only [decide_eq_true_eq];omega) ((List.mergeSort_perm _ _).trans hp)
def keysK (M:KV):List Int:=M.map Prod.fst
theorem intKeys_datK (M:KV):intKeys (datK M)=keysK M:=by
  unfold datK keysK intKeys
  simp only [List.map_map]
  exact List.map_congr_left fun p _=>rfl
end Agio
namespace Go.Proofs.YtijhlbeipglieaaGreat
open Go.RowKit Go.Maps Go.Sort Go.Shelf Go.Proofs
def Tryz.keysR_ren:Go.Shelf.Ren:=⟨fun | 7=>159 | 10=>227 | n=>n,fun | 23=>119 | 26=>3 | 3=>128 | 28=>256 | 0=>0 | 27=>255 | 33=>114 | 4=>4 | n=>n,fun | n=>n⟩
theorem Tryz.keysR:Go.Proofs.SlLaysZI.n7 Tryz.prog Tryz.keysR_ren:={
  mixed:=by kernel_rfl,
  f7:=⟨Tryz.f159.name,by decide,Tryz.func159.trans (congrArg some (by kernel_rfl))⟩,
  f10:=⟨Tryz.f227.name,by decide,Tryz.func227.trans (congrArg some (by kernel_rfl))⟩,
  t0:=Tryz.underlying0,
  a0:=Tryz.isAgg0,
  z0:=Tryz.sizeOf0,
  v0:=Tryz.zeroValue0,
  t4:=Tryz.underlying4,
  a4:=Tryz.isAgg4,
  z4:=Tryz.sizeOf4,
  v4:=Tryz.zeroValue4,
  t23:=Tryz.underlying119,
  a23:=Tryz.isAgg119,
  z23:=Tryz.sizeOf119,
  v23:=Tryz.zeroValue119,
  t26:=Tryz.underlying3,
  a26:=Tryz.isAgg3,
  z26:=Tryz.sizeOf3,
  v26:=Tryz.zeroValue3,
  t27:=Tryz.underlying255,
  a27:=Tryz.isAgg255,
  z27:=Tryz.sizeOf255,
  v27:=Tryz.zeroValue255,
  t28:=Tryz.underlying256,
  a28:=Tryz.isAgg256,
  z28:=Tryz.sizeOf256,
  v28:=Tryz.zeroValue256,
  t33:=Tryz.underlying114,
  a33:=Tryz.isAgg114,
  z33:=Tryz.sizeOf114,
  v33:=Tryz.zeroValue114}
def Tryz.sortedR_ren:Go.Shelf.Ren:=⟨fun | 6=>158 | 8=>225 | 9=>226 | 11=>264 | 13=>266 | 12=>265 | 23=>292 | 24=>293 | 14=>283 | 15=>284 | 16=>285 | 17=>286 | 18=>287 | 19=>288 | 20=>289 | 21=>290 | 22=>291 | 25=>299 | 26=>300 | 27=>301 | 28=>302 | 29=>303 | 30=>267 | 31=>304 | n=>n,fun | 26=>3 | 28=>256 | 24=>168 | 0=>0 | 3=>3 | 37=>288 | 48=>291 | 50=>209 | 4=>4 | 40=>378 | 39=>377 | 45=>176 | 5=>5 | 9=>9 | 51=>393 | 55=>207 | 57=>398 | 58=>48 | 33=>114 | n=>n,fun | n=>n⟩
theorem Tryz.sortedR:Go.Proofs.SlLaysZI.n6 Tryz.prog Tryz.sortedR_ren:={
  mixed:=by kernel_rfl,
  f6:=⟨Tryz.f158.name,by decide,Tryz.func158.trans (congrArg some (by kernel_rfl))⟩,
  f8:=⟨Tryz.f225.name,by decide,Tryz.func225.trans (congrArg some (by kernel_rfl))⟩,
  f11:=⟨Tryz.f264.name,by decide,Tryz.func264.trans (congrArg some (by kernel_rfl))⟩,
  t0:=Tryz.underlying0,
  a0:=Tryz.isAgg0,
  z0:=Tryz.sizeOf0,
  v0:=Tryz.zeroValue0,
  t24:=Tryz.underlying168,
  a24:=Tryz.isAgg168,
  z24:=Tryz.sizeOf168,
  v24:=Tryz.zeroValue168,
  t26:=Tryz.underlying3,
  a26:=Tryz.isAgg3,
  z26:=Tryz.sizeOf3,
  v26:=Tryz.zeroValue3,
  t28:=Tryz.underlying256,
  a28:=Tryz.isAgg256,
  z28:=Tryz.sizeOf256,
  v28:=Tryz.zeroValue256,
  i26:=by kernel_rfl}
def Tryz.sortR_ren:Go.Shelf.Ren:=⟨fun | 5=>226 | 8=>266 | 7=>265 | 19=>292 | 20=>293 | 10=>283 | 11=>284 | 12=>285 | 13=>286 | 14=>287 | 15=>288 | 16=>289 | 17=>290 | 18=>291 | 30=>299 | 31=>300 | 32=>301 | 33=>302 | 34=>303 | 35=>267 | 40=>304 | n=>n,fun | 23=>168 | 25=>3 | 3=>3 | 32=>288 | 22=>168 | 0=>0 | 44=>291 | 46=>209 | 4=>4 | 36=>378 | 35=>377 | 41=>176 | 5=>5 | 9=>9 | 53=>393 | 57=>207 | 63=>398 | 64=>48 | n=>n,fun | n=>n⟩
theorem Tryz.sortR:Go.Proofs.SlLaysM.n5 Tryz.prog Tryz.sortR_ren:={
  mixed:=by kernel_rfl,
  f5:=⟨Tryz.f226.name,by decide,Tryz.func226.trans (congrArg some (by kernel_rfl))⟩,
  f7:=⟨Tryz.f265.name,by decide,Tryz.func265.trans (congrArg some (by kernel_rfl))⟩,
  f8:=Tryz.func266.trans (congrArg some (by kernel_rfl)),
  f10:=⟨Tryz.f283.name,by decide,Tryz.func283.trans (congrArg some (by kernel_rfl))⟩,
  f11:=⟨Tryz.f284.name,by decide,Tryz.func284.trans (congrArg some (by kernel_rfl))⟩,
  f12:=⟨Tryz.f285.name,by decide,Tryz.func285.trans (congrArg some (by kernel_rfl))⟩,
  f13:=⟨Tryz.f286.name,by decide,Tryz.func286.trans (congrArg some (by kernel_rfl))⟩,
  f14:=⟨Tryz.f287.name,by decide,Tryz.func287.trans (congrArg some (by kernel_rfl))⟩,
  f15:=⟨Tryz.f288.name,by decide,Tryz.func288.trans (congrArg some (by kernel_rfl))⟩,
  f16:=⟨Tryz.f289.name,by decide,Tryz.func289.trans (congrArg some (by kernel_rfl))⟩,
  f17:=⟨Tryz.f290.name,by decide,Tryz.func290.trans (congrArg some (by kernel_rfl))⟩,
  f18:=⟨Tryz.f291.name,by decide,Tryz.func291.trans (congrArg some (by kernel_rfl))⟩,
  f19:=Tryz.func292.trans (congrArg some (by kernel_rfl)),
  f20:=Tryz.func293.trans (congrArg some (by kernel_rfl)),
  f30:=⟨Tryz.f299.name,by decide,Tryz.func299.trans (congrArg some (by kernel_rfl))⟩,
  f31:=Tryz.func300.trans (congrArg some (by kernel_rfl)),
  f32:=Tryz.func301.trans (congrArg some (by kernel_rfl)),
  f33:=⟨Tryz.f302.name,by decide,Tryz.func302.trans (congrArg some (by kernel_rfl))⟩,
  f34:=⟨Tryz.f303.name,by decide,Tryz.func303.trans (congrArg some (by kernel_rfl))⟩,
  f35:=⟨Tryz.f267.name,by decide,Tryz.func267.trans (congrArg some (by kernel_rfl))⟩,
  f40:=⟨Tryz.f304.name,by decide,Tryz.func304.trans (congrArg some (by kernel_rfl))⟩,
  t0:=Tryz.underlying0,
  a0:=Tryz.isAgg0,
  z0:=Tryz.sizeOf0,
  v0:=Tryz.zeroValue0,
  t3:=Tryz.underlying3,
  a3:=Tryz.isAgg3,
  z3:=Tryz.sizeOf3,
  v3:=Tryz.zeroValue3,
  t4:=Tryz.underlying4,
  a4:=Tryz.isAgg4,
  z4:=Tryz.sizeOf4,
  v4:=Tryz.zeroValue4,
  t5:=Tryz.underlying5,
  a5:=Tryz.isAgg5,
  z5:=Tryz.sizeOf5,
  v5:=Tryz.zeroValue5,
  t9:=Tryz.underlying9,
  a9:=Tryz.isAgg9,
  z9:=Tryz.sizeOf9,
  v9:=Tryz.zeroValue9,
  t22:=Tryz.underlying168,
  a22:=Tryz.isAgg168,
  z22:=Tryz.sizeOf168,
  v22:=Tryz.zeroValue168,
  t23:=Tryz.underlying168,
  a23:=Tryz.isAgg168,
  z23:=Tryz.sizeOf168,
  v23:=Tryz.zeroValue168,
  t25:=Tryz.underlying3,
  a25:=Tryz.isAgg3,
  z25:=Tryz.sizeOf3,
  v25:=Tryz.zeroValue3,
  t32:=Tryz.underlying288,
  a32:=Tryz.isAgg288,
  z32:=Tryz.sizeOf288,
  v32:=Tryz.zeroValue288,
  t35:=Tryz.underlying377,
  a35:=Tryz.isAgg377,
  z35:=Tryz.sizeOf377,
  v35:=Tryz.zeroValue377,
  t36:=Tryz.underlying378,
  a36:=Tryz.isAgg378,
  z36:=Tryz.sizeOf378,
  v36:=Tryz.zeroValue378,
  t41:=Tryz.underlying176,
  a41:=Tryz.isAgg176,
  z41:=Tryz.sizeOf176,
  v41:=Tryz.zeroValue176,
  t44:=Tryz.underlying291,
  a44:=Tryz.isAgg291,
  z44:=Tryz.sizeOf291,
  v44:=Tryz.zeroValue291,
  t46:=Tryz.underlying209,
  a46:=Tryz.isAgg209,
  z46:=Tryz.sizeOf209,
  v46:=Tryz.zeroValue209,
  t53:=Tryz.underlying393,
  a53:=Tryz.isAgg393,
  z53:=Tryz.sizeOf393,
  v53:=Tryz.zeroValue393,
  t57:=Tryz.underlying207,
  a57:=Tryz.isAgg207,
  z57:=Tryz.sizeOf207,
  v57:=Tryz.zeroValue207,
  t63:=Tryz.underlying398,
  a63:=Tryz.isAgg398,
  z63:=Tryz.sizeOf398,
  v63:=Tryz.zeroValue398,
  t64:=Tryz.underlying48,
  a64:=Tryz.isAgg48,
  z64:=Tryz.sizeOf48,
  v64:=Tryz.zeroValue48}
end Go.Proofs.YtijhlbeipglieaaGreat
namespace Go.Proofs.YtijhlbeipglieaaGreat
open Go.RowKit Agio Go.Maps Go.Sort Go.Shelf
theorem mapI_upR {w:World} {b:Nat} {M:KV} (h:MapI Tryz.prog 3 w b M):Agio.Up (keysK M):=by
  unfold Agio.Up keysK
  rw [List.pairwise_map]
  exact h.sorted (int_keyed Tryz.underlying3)
theorem own_of_rowR {e:TypeId} {size base:Nat} {w:World} {v:Value} {n:Nat} {xs:List Value} (h:w.ownsRow base e size v n xs):(∃A c,v= .slice A n c∧Agio.Own e size w A n c xs)∧∀A c,v= .slice A n c→0 < n→∀k∈ablk A,base≤k:=by
  rcases h.2 with ⟨hv,hn⟩ | ⟨g,cap,cur,hv,hb,rest⟩
  · subst hn
    refine ⟨⟨none,0,hv,⟨h.1,.inl ⟨rfl,rfl⟩⟩⟩,fun A c _ h0=>by omega⟩
  · refine ⟨⟨some ⟨g,0,none⟩,cap,hv,⟨h.1,.inr ⟨g,cap,cur,rfl,Nat.zero_le _,rest⟩⟩⟩,fun A c hv' _ k hk=>?_⟩
    rw [hv] at hv'
    injection hv' with hA
    subst hA
    simp [ablk] at hk
    omega
theorem mapsKeysR (w:World) (b:Nat):Calls Tryz.prog 159 #[.map (some b)] w fun e w'=>
    e= .returned (.func (.func 227) #[] #[.pointer (some ⟨w.heap.size,0,none⟩)])∧w'=w.alloc (.cells #[.map (some b)] 119):=
  (callsIn_wide (n:=5)).1 (AnyZI.keys_in Tryz.keysR Fence.wide 5 trivial rfl (some b) w)
theorem sortsR (m:Nat):AnyZI.SortsIn Tryz.prog Tryz.sortedR_ren Fence.wide m:=
  ⟨fun blk off cap ss W hH hblk hsz=>callsIn_wide.2 (AnyM.slices_Sort_int Tryz.sortR blk off cap ss W hH hblk hsz),
   fun p cap W=>callsIn_wide.2 (AnyM.slices_Sort_int_none Tryz.sortR p cap W)⟩
theorem slicesSortedR (w:World) (B b:Nat) (M:KV) (hB:Blk w B 119 #[.map (some b)]) (h:MapI Tryz.prog 3 w b M) (hl:M.length≤1000000) :
    Calls Tryz.prog 158 #[.func (.func 227) #[] #[.pointer (some ⟨B,0,none⟩)]] w fun e w'=>
      ∃A c,e= .returned (.slice A M.length c)∧Agio.Own 3 1 w' A M.length c ((keysK M).map (Value.int .i64))∧Upd [] (ablk A) w w':=by
  have hq:=hB.cell 0
  simp only [List.getElem?_toArray,List.getElem?_cons_zero] at hq
  have hsz:Maps.size (datK M:DataW Value)=M.length:=datK_size M
  have hseq:SeqGives Fence.wide 2 Tryz.prog 227 #[.pointer (some ⟨B,0,none⟩)] encZ (fun ss=>ss.Perm (intKeys (datK M))) (Maps.size (datK M:DataW Value)) w:=
    AnyZI.keys_gives (ρ:=Tryz.keysR_ren) {Tryz.keysR with} Fence.wide _ trivial rfl (by omega) B b M.length _ w hB.lt hq h
  have cS:=AnyZI.sorted_in Tryz.sortedR Fence.wide 5 trivial trivial trivial trivial rfl (by omega) (sortsR _) (enters_of Tryz.func226 (by kernel_rfl) rfl) 227 #[.pointer (some ⟨B,0,none⟩)] trivial (enters_of Tryz.func227 (by kernel_rfl) rfl) _ _ (by rw [hsz];unfold maxLen;omega) (by rw [hsz];omega) w hseq
  refine ((callsIn_wide (n:=5)).1 cS).mono ?_
  rintro e w' ⟨v,ss,rfl,hp,hrow,hnil,hb⟩
  rw [intKeys_datK] at hp
  have hup:=mapI_upR h
  rw [sort_up hp hup] at hrow
  have hlen:ss.length=M.length:=by rw [hp.length_eq];simp [keysK]
  rw [hlen] at hrow
  obtain ⟨⟨A,c,rfl,ho⟩,hbase⟩:=own_of_rowR hrow
  refine ⟨A,c,rfl,ho,Upd.of_below_new hb (fun k hk=>?_)⟩
  rcases Nat.eq_zero_or_pos M.length with h0 | h0
  · have hs:ss= []:=List.eq_nil_of_length_eq_zero (by omega)
    have:=hnil.2 hs
    injection this with hA
    subst hA
    simp [ablk] at hk
  · exact hbase A c rfl h0 k hk
end Go.Proofs.YtijhlbeipglieaaGreat
namespace Go.Proofs.YtijhlbeipglieaaGreat
open Go.RowKit Agio Go.Maps
variable [Ban]
section
variable {w:World} {M:SiteV}
theorem SiteS.look1R (h:SiteS w M) {x:Int} (hx:(Lit.int .i64 x).wf=true) :
    (Instr.lookup 119 (.map (some M.br)) (.int .i64 x) false).run Tryz.prog w= .ok (((lookG x M.rs).map RnV.ptr).getD (.pointer none)) w:=by
  have:=h.rnd.look Tryz.underlying3 Tryz.underlying119 (zeroRn w) hx
  rw [lookK_G,lookG_map] at this
  rw [this]
theorem SiteS.older {w:World} {M:SiteV} (h:SiteS w M) {x:Int} {r:RnV} (hl:lookG x M.rs=some r) :
    SiteS (w.setCell ⟨r.g,6,none⟩ (.int .i64 ((r.age:Int) + 1))) {M with rs:=putG x {r with age:=r.age + 1} M.rs}∧
    Upd M.fp ({M with rs:=putG x {r with age:=r.age + 1} M.rs} :SiteV).fp w (w.setCell ⟨r.g,6,none⟩ (.int .i64 ((r.age:Int) + 1))):=by
  have hmem:=lookG_some hl
  have hR:=h.rds _ hmem
  have u6:Upd [r.g] [r.g] w (w.setCell ⟨r.g,6,none⟩ (.int .i64 ((r.age:Int) + 1))):=(Upd.refl [r.g] w).setCell (p:=⟨r.g,6,none⟩) (.inl (by simp)) _
  have hX:∀k∈[r.g],tagW w k=some (some 132):=by simp only [List.mem_singleton];rintro k rfl;exact hR.tg
  have hrs:=h.ok.rs (x,r.pl) (List.mem_map.2 ⟨_,hmem,rfl⟩)
  refine h.setR hl {r with age:=r.age + 1} rfl (X:=[r.g]) (fun k hk=>by rw [List.mem_singleton.1 hk];simp [RnV.fp]) u6 ⟨?_,hR.prs.upd u6 (tag_offs hR.tP hX (by decide)),hR.vts.upd u6 (tag_offs hR.tV hX (by decide))⟩ (fun k hk=>.inl hk) (fun k hk=>.inl hk) (fun y hy=>h.rsByt hmem hy) ⟨hrs.2.2.1,hrs.2.2.2.1,hrs.2.2.2.2⟩
  have KB:=hR.blk.set_ 6 (.int .i64 ((r.age:Int) + 1))
  simpa using KB
end
theorem askV_in {w:World} {M:SiteV} (h:SiteS w M) {x:Int} {r:RnV} (hm:(x,r)∈M.rs):RdB w (askV r x).A (askV r x).n (askV r x).b∧∀k∈ablk (askV r x).A,k∉M.fp:=by
  have hb:=h.rsByt hm (x:=r.v) (by simp [RnV.bytes])
  have hf:∀k∈ablk r.v.A,k∉M.fp:=h.bytFar (by simp only [SiteV.bytes,List.mem_append,List.mem_flatMap];exact .inr (.inr (.inl ⟨_,hm,by simp [RnV.bytes]⟩)))
  unfold askV
  split
  · exact ⟨hb.1.rd,hf⟩
  · exact ⟨RdB.nil _ _,by simp [ablk]⟩
theorem siteAgain (w:World) (M:SiteV) (h:SiteS w M) (hl:M.held.length≤800000000) (hage:∀p∈M.pl.rs,p.2.age≤4000000000000000000) :
    Calls Tryz.prog 95 #[M.ptr] w fun e w'=>e= .returned (.tuple #[])∧Gone w w' M M.pl.again:=by
  have q8:w.cell? ⟨M.gs,8,none⟩=some (.map (some M.br)):=h.blk.cell 8
  have C0:=mapsKeysR w M.br
  have u0:Upd [] [] w (w.alloc (.cells #[.map (some M.br)] 119)):=(Upd.refl [] w).alloc _
  have h0:=h.upd0 u0
  have hkl:(mapG RnV.ptr M.rs).length=M.pl.rs.length:=by rw [mapG_len];show _=(mapG _ _).length;rw [mapG_len]
  have hlen:M.pl.rs.length≤4096:=by rw [←hkl,mapG_len];exact h.rsLen
  have C1:=slicesSortedR (w.alloc (.cells #[.map (some M.br)] 119)) w.heap.size M.br (mapG RnV.ptr M.rs) (Blk.new _ _ _) h0.rnd (by rw [hkl];omega)
  have hks:keysK (mapG RnV.ptr M.rs)=M.pl.rs.map Prod.fst:=by
    show (mapG RnV.ptr M.rs).map _=(mapG RnV.pl M.rs).map _
    unfold mapG
    simp
  rw [hkl,hks] at C1
  have n7:=h.ok.n7
  have HAG:=Lib.hid (Site.again_eq M.pl)
  obtain ⟨R,hR⟩:∃R,M.pl.again=R:=⟨_,rfl⟩
  rw [hR] at HAG ⊢
  clear hR
  rw [SiteV.ptr]
  go_enter Tryz.func95,Tryz.ntmps95
  repeat' (first|go_values|go_skip|go_guarded|go_step|go_upon|(simp only [];go_at_K))
  ((with_reducible refine C0.mono ?_);rintro e w1 ⟨rfl,rfl⟩)
  repeat' (first|go_values|go_skip|go_guarded|go_step|go_upon|(simp only [];go_at_K))
  ((with_reducible refine C1.mono ?_);rintro e w2 ⟨A,c,rfl,ho,hu⟩)
  have h2:=h0.upd0 hu
  have U2:=u0.trans hu
  have hAf:∀k∈ablk A,k∉M.fp:=fun k hk hm=>by have h1:=(Upd.refl [] _).new hu k hk;have h3:=h0.lt k hm;omega
  have hn1:M.pl.n=M.n:=rfl
  clear C0 C1 q8 h0
  repeat' (first|go_values|go_skip|go_guarded|go_step|go_upon|(simp only [];go_at_K))
  go_loopw [13] (fun v13 wr=>∃(i:Nat) (M':SiteV),i≤M.pl.rs.length∧v13= .int .i64 (i:Int)∧SiteS wr M'∧M'.pl=M.pl.againN i∧M'.gs=M.gs∧Upd M.fp M'.fp w2 wr) (fun v13 _=>M.pl.rs.length - (intOf v13).toNat)
  case atStart=>exact ⟨0,M,by omega,rfl,h2,(Site.againN_zero _).symm,rfl,Upd.refl _ _⟩
  case round=>
    obtain ⟨i,M',hi,rfl,h',hp,hg,U⟩:=hrel
    by_cases hlt:i < M.pl.rs.length
    · have hil:(i:Int) < (M.pl.rs.length:Int):=by omega
      have hw1:IntKind.i64.wrap ((i:Int) + 1)=(i:Int) + 1:=by rw [IntKind.wrap_i64];omega
      have ho':=ho.upd U hAf
      obtain ⟨ad,u,rfl,hu',hc⟩:=ho'.rd.at_ (k:=i) (by omega)
      rw [List.getElem?_map,List.getElem?_map,List.getElem?_eq_getElem hlt,Option.map_some,Option.map_some,Option.some.injEq] at hu'
      subst hu'
      have hsort:(M.pl.againN i).rs.Pairwise fun p q=>p.1 < q.1:=by
        rw [←hp]
        show (mapG RnV.pl M'.rs).Pairwise _
        unfold mapG
        rw [List.pairwise_map]
        exact h'.rsSorted
      obtain ⟨hput,hlk⟩:=M.pl.againN_put hlt hsort
      have hag:=hage _ (List.getElem_mem hlt)
      have hxr:=h.ok.rs _ (List.getElem_mem hlt)
      have hstep:=M.pl.againN_ask hlt
      have hold:=M.pl.againN_old hlt
      obtain ⟨x,hx⟩:∃x,M.pl.rs[i].1=x:=⟨_,rfl⟩
      rw [←hp] at hlk hput
      obtain ⟨r,hr,hrp⟩:∃r,lookG (M.pl.rs[i].1) M'.rs=some r∧r.pl=M.pl.rs[i].2:=by
        have:lookG (M.pl.rs[i].1) (mapG RnV.pl M'.rs)=some M.pl.rs[i].2:=hlk
        rw [lookG_map] at this
        obtain ⟨r,h1,h2⟩:=Option.map_eq_some_iff.1 this
        exact ⟨r,h1,h2⟩
      have hage':r.age≤4000000000000000000:=by rw [←hrp] at hag;exact hag
      have hput':putG M.pl.rs[i].1 ({r with age:=r.age + 1} :RnV).pl M'.pl.rs=(M.pl.rs.take (i + 1)).map Site.ager ++ M.pl.rs.drop (i + 1):=by
        rw [←hput];congr 1;unfold Site.ager;rw [←hrp];rfl
      rw [←hrp] at hstep
      rw [hx] at hc hr hxr hstep hput'
      clear hput hlk hsort hag hrp hx
      have hwf:(Lit.int .i64 x).wf=true:=wfI (by omega) (by omega)
      have hlook:=h'.look1R hwf
      rw [hr] at hlook
      simp only [Option.map_some,Option.getD_some] at hlook
      have hR:=h'.rds _ (lookG_some hr)
      obtain ⟨h3,V3⟩:=h'.older hr
      obtain ⟨M3,hM3⟩:∃M3:SiteV,{M' with rs:=putG x {r with age:=r.age + 1} M'.rs} =M3:=⟨_,rfl⟩
      rw [hM3] at h3 V3
      have hm3:(x,({r with age:=r.age + 1} :RnV))∈M3.rs:=by rw [←hM3];exact mem_putG.2 (.inl rfl)
      have hp3:M3.pl= {M.pl.againN i with rs:=(M.pl.rs.take (i + 1)).map Site.ager ++ M.pl.rs.drop (i + 1)}:=by
        rw [←hput',←hp,←hM3]
        unfold SiteV.pl
        simp only [putG_map]
      have hg3:M3.gs=M.gs:=by rw [←hM3];exact hg
      have hn3:M3.n=M.n:=congrArg Site.n hp3
      have hh3:M3.held.length≤900000000:=by
        rw [←SiteV.held_len,hp3]
        have:=M.pl.againN_held i
        rw [SiteV.held_len] at this
        show (M.pl.againN i).held.length≤_
        omega
      have q8:wr.cell? ⟨M.gs,8,none⟩=some (.map (some M'.br)):=by rw [←hg];exact h'.blk.cell 8
      have r6:wr.cell? ⟨r.g,6,none⟩=some (.int .i64 (r.age:Int)):=hR.blk.cell 6
      have f6:wr.frozen? ⟨r.g,6,none⟩=false:=hR.blk.frozen 6
      have hw2:IntKind.i64.wrap ((r.age:Int) + 1)=(r.age:Int) + 1:=by rw [IntKind.wrap_i64];omega
      rw [RnV.ptr] at hlook
      have U3:=U.trans V3
      obtain ⟨w3,hw3⟩:∃w3,wr.setCell ⟨r.g,6,none⟩ (.int .i64 ((r.age:Int) + 1))=w3:=⟨_,rfl⟩
      rw [hw3] at h3 U3
      clear hM3 hp h' V3 hput' hR U
      by_cases h8:i < 8
      · have d8:decide ((i:Int) < 8)=true:=decide_eq_true (by omega)
        have KS:=Lib.hid (hstep h8)
        have C4:=siteAsks w3 _ (h3.rds _ hm3) x
        have hV:=askV_in h3 hm3
        have hms:=askV_ms {r with age:=r.age + 1} x
        have hfit:(askV {r with age:=r.age + 1} x).ms.Fit:=by rw [hms];exact Site.asks_fit ⟨hxr.1,hxr.2.1⟩ ((h3.ok.rs (x,({r with age:=r.age + 1} :RnV).pl) (List.mem_map.2 ⟨_,hm3,rfl⟩)).2.2.2.1) ((h3.ok.rs (x,({r with age:=r.age + 1} :RnV).pl) (List.mem_map.2 ⟨_,hm3,rfl⟩)).2.2.1)
        have C5:=fun (w4:World) (hu:Upd [] [] w3 w4)=>siteOthers w4 M3 (h3.upd0 hu) (askV {r with age:=r.age + 1} x) hfit (hV.1.upd hu (by simp)) hV.2 hh3
        have HA:=Lib.hid (show M3.pl.others (askV {r with age:=r.age + 1} x).ms M3.n=M.pl.againN (i + 1) by
          rw [hms,hp3,hn3,←hn1,←hstep h8];rfl)
        obtain ⟨av,hav⟩:∃z,askV {r with age:=r.age + 1} x=z:=⟨_,rfl⟩
        rw [hav] at C4 HA
        simp only [hav,SiteV.ptr,hg3] at C5
        simp only [RnV.ptr] at C4
        obtain ⟨vv,hvv⟩:∃z,av.val=z:=⟨_,rfl⟩
        rw [hvv] at C4
        simp only [hvv] at C5
        clear hav hfit hV hms hm3 hp3 hstep hold h3
        repeat' (first|go_values|go_skip|go_guarded|go_step|go_upon|(simp only [];go_at_K))
        ((with_reducible refine C4.mono ?_);rintro e w4 ⟨rfl,hu4⟩)
        repeat' (first|go_values|go_skip|go_guarded|go_step|go_upon|(simp only [];go_at_K))
        ((with_reducible refine (C5 w4 hu4).mono ?_);rintro e w5 ⟨rfl,M5,h5,hp5,hg5,-,U5⟩)
        repeat' (first|go_values|go_skip|go_guarded|go_step|go_upon|(simp only [];go_at_K))
        exact ⟨⟨i + 1,M5,by omega,by simp,h5,hp5.trans HA.out,hg5.trans hg3,(U3.trans (hu4.up M3.fp)).trans U5⟩,by simp [intOf];omega⟩
      · have d8:decide ((i:Int) < 8)=false:=decide_eq_false (by omega)
        have HA:=Lib.hid (show M3.pl=M.pl.againN (i + 1) by rw [hp3,hold,if_neg h8])
        clear hstep hold hp3
        repeat' (first|go_values|go_skip|go_guarded|go_step|go_upon|(simp only [];go_at_K))
        exact ⟨⟨i + 1,M3,by omega,by simp,h3,HA.out,hg3,U3⟩,by simp [intOf];omega⟩
    · obtain rfl:i=M.pl.rs.length:=by omega
      have hil:¬ ((M.pl.rs.length:Int) < (M.pl.rs.length:Int)):=by omega
      have KEY:=Lib.hid (show Gone w wr M R from ⟨M',h',hp.trans HAG.out.symm,hg,(U2.up M.fp).trans U⟩)
      clear h' U hp
      repeat' (first|go_values|go_skip|go_guarded|go_step|go_upon|(simp only [];go_at_K))
      exact bodyPost_end (results_none rfl _ _ _) rfl ⟨rfl,KEY.out⟩
end Go.Proofs.YtijhlbeipglieaaGreat
