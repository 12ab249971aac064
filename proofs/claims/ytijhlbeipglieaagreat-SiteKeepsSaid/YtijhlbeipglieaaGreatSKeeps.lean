/- Layer 23: agiolaw23.SiteKeeps. -/
import Derived.Test.YtijhlbeipglieaaGreatPkAct
import Derived.Test.YtijhlbeipglieaaGreatPkSiteD
import Derived.Test.YtijhlbeipglieaaGreatPkLaw
set_option linter.all false
set_option maxRecDepth 100000
set_option maxHeartbeats 8000000
namespace Agio
open Go Go.Proofs.YtijhlbeipglieaaGreat
theorem Inv.sub {s:Site} {told told':List Ms} {c:Nat} (h:Inv s told c) (hs:∀m∈told',m∈told):Inv s told' c:=by
  obtain ⟨h0,S,h1,h2⟩:=h
  exact ⟨h0,S,fun m hm=>h1 m (hs m hm),h2⟩
theorem Site.act_told (s:Site) (k n:Int) (v:List UInt8) (m:Ms):∀x∈(s.act k n v m).2,x∈s.held:=by
  unfold Site.act
  repeat' split
  all_goals (try (intro x hx;cases hx;done))
  unfold Site.sync
  split
  · intro x hx;cases hx
  · intro x hx;exact (List.mem_filter.1 hx).1
theorem Site.act_len (s:Site) (k n:Int) (v:List UInt8) (m:Ms):(s.act k n v m).2.length≤s.held.length:=by
  unfold Site.act
  repeat' split
  all_goals (try exact Nat.zero_le _)
  unfold Site.sync
  split
  · exact Nat.zero_le _
  · exact List.length_filter_le _ _
def tellsB (k:Int):Bool:=(k == 4) || (k == 6) || (k == 2) || (k == 1)
theorem tellsB_iff (m:Ms):tellsB m.kind=true ↔ m.Tells:=by
  unfold tellsB Ms.Tells
  simp only [Bool.or_eq_true,beq_iff_eq]
  omega
end Agio
namespace Go.Proofs.YtijhlbeipglieaaGreat
open Go.RowKit Agio Go.Maps
theorem siteKeeps_any (w:World) (a b:Nat) (ha:a < 256) (hb:b < 256) (B:Option Addr) (m d:Nat) (l:List Dt) (hl:RdS Dt.cells 13 w B m l) (he:∀x∈l,Dt.Rds w x) :
    Calls Tryz.prog 3 #[.int .u8 (a:Int),.int .u8 (b:Int),.slice B m d] w fun e w'=>e= .returned (.bool true)∧Upd [] [] w w':=by
  have C1:=siteAwake w
  have C2:=fun w=>siteMade w a b ha hb
  have hnok:newOk ((a % cntN b:Nat):Int) ((cntN b:Nat):Int) ((3:Nat):Int)=true:=by
    have h1:3≤cntN b∧cntN b≤7:=by unfold cntN;omega
    have h2:a % cntN b < cntN b:=Nat.mod_lt _ (by omega)
    simp only [newOk,Bool.and_eq_true,decide_eq_true_eq];omega
  obtain ⟨T0,hT0⟩:∃T,Site.new (a % cntN b) (cntN b) 3=T:=⟨_,rfl⟩
  have hI0:Inv T0 [] 80:=by rw [←hT0];exact (Inv.new hnok).less (by omega)
  rw [hT0] at C2
  clear hnok hT0
  go_enter Tryz.func3,Tryz.ntmps3
  repeat' (first|go_values|go_skip|go_guarded|go_step|go_upon|(simp only [];go_at_K))
  ((with_reducible refine C1.mono ?_);rintro e w1 ⟨rfl,u1⟩)
  clear C1
  repeat' (first|go_values|go_skip|go_guarded|go_step|go_upon|(simp only [];go_at_K))
  ((with_reducible refine (C2 w1).mono ?_);rintro e w2 ⟨M,rfl,h2,hp2,u2⟩)
  have U2:Upd [] M.fp w w2:=(u1.up []).trans u2
  rw [←hp2] at hI0
  clear C2 u2 hp2 u1
  simp only [SiteV.ptr]
  repeat' (first|go_values|go_skip|go_guarded|go_step|go_upon|(simp only [];go_at_K))
  go_loopw [9,10] (fun v9 v10 wr=>KeptR (∃(j:Nat) (Mi:SiteV) (ts:List Mv) (At:Option Addr) (ct:Nat),j≤m∧j≤80∧v10= .int .i64 (j:Int)∧v9= .slice At ts.length ct∧Agio.Own 32 10 wr At ts.length ct (ts.flatMap Mv.cells)∧
    Inv Mi.pl (ts.map Mv.ms) (80 - j)∧(∀x∈ts,x.ms.May∧x.ms.Tells)∧ts.length≤j * 400000000∧SiteS wr Mi∧Mi.gs=M.gs∧(∀k∈ablk At,k∉Mi.fp∧w.heap.size≤k)∧Upd [] Mi.fp w wr)) (fun _ v10 _=>80 - (intOf v10).toNat)
  case atStart=>exact KeptR.mk ⟨0,M,[],none,0,by omega,by omega,rfl,rfl,Agio.Own.nil _ _ _,hI0,by simp,by simp,h2,rfl,by simp [ablk],U2⟩
  case round=>
    obtain ⟨j,Mi,ts,At,ct,hjm,hj80,rfl,rfl,ho,hI,hts,htl,hS,hgi,hfar,U⟩:=hrel.out
    clear hrel h2 hI0 U2
    obtain ⟨D,hD⟩:∃D,(decide (j < m) && decide (j < 80))=D:=⟨_,rfl⟩
    have HD:=Lib.hid hD
    clear hD
    go_upto_region 7 with fail
    go_cut [31] from 24 to 106 (fun s31 wc=>s31= .bool D∧wr=wc)
    case first=>
      by_cases h1:j < m
      · have hd1:decide (j < m)=true:=decide_eq_true h1
        have hi1:(j:Int) < (m:Int):=by omega
        by_cases h2:j < 80
        · have hd2:decide ((j:Int) < 80)=true:=decide_eq_true (by omega)
          repeat' (first|go_values|go_skip|go_guarded|go_step|go_upon|(simp only [];go_at_K))
          go_meet
          exact ⟨by rw [←HD.out,hd1,decide_eq_true h2];rfl,rfl⟩
        · have hd2:decide ((j:Int) < 80)=false:=decide_eq_false (by omega)
          repeat' (first|go_values|go_skip|go_guarded|go_step|go_upon|(simp only [];go_at_K))
          go_meet
          exact ⟨by rw [←HD.out,decide_eq_false h2,Bool.and_false],rfl⟩
      · have hd1:decide (j < m)=false:=decide_eq_false h1
        have hi1:¬ (j:Int) < (m:Int):=by omega
        repeat' (first|go_values|go_skip|go_guarded|go_step|go_upon|(simp only [];go_at_K))
        go_meet
        exact ⟨by rw [←HD.out,hd1];rfl,rfl⟩
    case rest=>
      obtain ⟨rfl,hwc⟩:=hcut
      subst hwc
      cases D with
      | false=>
        repeat' (first|go_values|go_skip|go_guarded|go_step|go_upon|(simp only [];go_at_K))
        go_ret
        exact ⟨rfl,U.gives (by simp)⟩
      | true=>
        have hj:j < m∧j < 80:=by have:=HD.out;simpa using this
        have hi1:(j:Int) < (m:Int):=by omega
        have hw1:IntKind.i64.wrap ((j:Int) + 1)=(j:Int) + 1:=by rw [IntKind.wrap_i64];omega
        have hvr:=hl.upd0 U
        have hml:=hl.len
        obtain ⟨ad,rfl,h0,hjc⟩:=RdS.at_ (f:=Dt.cells) (s:=13) Dt.cells_len hvr (i:=j) (by omega)
        have hey:=he _ (List.getElem_mem (show j < l.length by omega))
        generalize l[j]=y at *
        have d0:=h0 _ rfl
        have d1:=hjc 1 _ (by omega) rfl
        have d2:=hjc 2 _ (by omega) rfl
        have d3:=hjc 3 _ (by omega) rfl
        have d4:=hjc 4 _ (by omega) rfl
        have d5:=hjc 5 _ (by omega) rfl
        have d6:=hjc 6 _ (by omega) rfl
        have d7:=hjc 7 _ (by omega) rfl
        have d8:=hjc 8 _ (by omega) rfl
        have d9:=hjc 9 _ (by omega) rfl
        have d10:=hjc 10 _ (by omega) rfl
        have d11:=hjc 11 _ (by omega) rfl
        have d12:=hjc 12 _ (by omega) rfl
        clear h0 hjc hvr hml
        obtain ⟨c,hc⟩:∃c,80 - j=c + 1:=⟨80 - (j + 1),by omega⟩
        rw [hc] at hI
        have C:=siteAct wr Mi hS y (hey.upd0 U) (fun h0 k hk hm=>by
          have h1:=hey.m.below h0 k hk
          rcases U.fresh k hm with h2 | h2
          · cases h2
          · omega) hI
        have hI2:=hI.act y.k y.n y.b y.m.ms
        have hmay:∀x∈(Mi.pl.act y.k y.n y.b y.m.ms).2,x.May:=fun x hx=>hI.ok.held x (Mi.pl.act_told y.k y.n y.b y.m.ms x hx)
        have hlen:(Mi.pl.act y.k y.n y.b y.m.ms).2.length≤400000000:=Nat.le_trans (Mi.pl.act_len y.k y.n y.b y.m.ms) hI.held_le
        rw [SiteV.ptr,hgi,Dt.val_eq] at C
        have HLT:=ho.lt
        clear hey hS hI
        repeat' (first|go_values|go_skip|go_guarded|go_step|go_upon|(simp only [];go_at_K))
        ((with_reducible refine C.mono ?_);rintro e w7 ⟨A7,c7,td,M7,rfl,htd,ho7,hA7,h7,hp7,hg7,U7⟩)
        have hg7':=hg7.trans hgi
        rw [←htd] at hI2 hmay hlen
        rw [←hp7] at hI2
        rw [List.length_map] at hlen
        have hoT:=ho.upd U7 (fun k hk=>(hfar k hk).1)
        have hfar7:∀k∈ablk At,k∉M7.fp∧w.heap.size≤k∧k∉ablk A7:=fun k hk=>⟨U7.notin (hfar k hk).1 (HLT k hk),(hfar k hk).2,fun hm=>by have h1:=(hA7 k hm).1;have h2:=HLT k hk;omega⟩
        have U77:=U.trans U7
        clear C ho hfar U U7 HLT d0 d1 d2 d3 d4 d5 d6 d7 d8 d9 d10 d11 d12 hp7 hg7 htd
        repeat' (first|go_values|go_skip|go_guarded|go_step|go_upon|(simp only [];go_at_K))
        go_loopw [9,12] (fun v9 v12 wr=>KeptR (∃(k:Nat) (ts':List Mv) (At':Option Addr) (ct':Nat),k≤td.length∧v12= .int .i64 (k:Int)∧v9= .slice At' ts'.length ct'∧ts'=ts ++ (td.take k).filter (fun x=>tellsB x.k)∧
          Agio.Own 32 10 wr At' ts'.length ct' (ts'.flatMap Mv.cells)∧(∀x∈ablk At',x∉M7.fp∧w.heap.size≤x∧x∉ablk A7)∧Agio.Own 32 10 wr A7 td.length c7 (td.flatMap Mv.cells)∧SiteS wr M7∧Upd [] M7.fp w wr)) (fun _ v12 _=>td.length - (intOf v12).toNat)
        case atStart=>exact KeptR.mk ⟨0,ts,At,ct,by omega,rfl,rfl,by simp,hoT,hfar7,ho7,h7,U77⟩
        case round=>
          obtain ⟨k,ts',At',ct',hk,rfl,rfl,hts',hoT,hfar7,ho7,h7,U77⟩:=hrel.out
          clear hrel
          by_cases hlt:k < td.length
          · have hil:(k:Int) < (td.length:Int):=by omega
            have hw2:IntKind.i64.wrap ((k:Int) + 1)=(k:Int) + 1:=by rw [IntKind.wrap_i64];omega
            have HRT:RdS Mv.cells 10 wr A7 td.length td:=⟨rfl,ho7.rd⟩
            obtain ⟨ae,rfl,e0,ej⟩:=RdS.at_ (f:=Mv.cells) (s:=10) (fun _=>rfl) HRT hlt
            have HT:=Lib.hid (filt_take (p:=fun x:Mv=>tellsB x.k) hlt)
            generalize td[k]=x at *
            have p0:=e0 _ rfl
            have p1:=ej 1 _ (by omega) rfl
            have p2:=ej 2 _ (by omega) rfl
            have p3:=ej 3 _ (by omega) rfl
            have p4:=ej 4 _ (by omega) rfl
            have p5:=ej 5 _ (by omega) rfl
            have p6:=ej 6 _ (by omega) rfl
            have p7:=ej 7 _ (by omega) rfl
            have p8:=ej 8 _ (by omega) rfl
            have p9:=ej 9 _ (by omega) rfl
            obtain ⟨tb,htb⟩:∃tb,tellsB x.k=tb:=⟨_,rfl⟩
            simp only [htb] at HT
            have HTB:=Lib.hid htb
            have hkl:ts'.length≤ts.length + k:=by rw [hts',List.length_append];have:=List.length_filter_le (fun x:Mv=>tellsB x.k) (td.take k);rw [List.length_take] at this;omega
            have hnew:ts ++ (td.take (k + 1)).filter (fun x=>tellsB x.k)=ts' ++ (if tb=true then [x] else []):=by rw [HT.out,←List.append_assoc,←hts']
            have HNEW:=Lib.hid hnew
            clear e0 ej HRT htb hts' hnew
            go_upto_region 13 with fail
            go_cut [75] from 40 to 82 (fun s75 wc=>s75= .bool tb∧wr=wc)
            case first=>
              have htb:=HTB.out
              unfold tellsB at htb
              cases q4:(x.k == 4) with
              | true=>
                rw [q4] at htb
                obtain rfl:true=tb:=by simpa using htb
                repeat' (first|go_values|go_skip|go_guarded|go_step|go_upon|(simp only [];go_at_K))
                go_meet
                exact ⟨rfl,rfl⟩
              | false=>
                cases q6:(x.k == 6) with
                | true=>
                  rw [q4,q6] at htb
                  obtain rfl:true=tb:=by simpa using htb
                  repeat' (first|go_values|go_skip|go_guarded|go_step|go_upon|(simp only [];go_at_K))
                  go_meet
                  exact ⟨rfl,rfl⟩
                | false=>
                  cases q2:(x.k == 2) with
                  | true=>
                    rw [q4,q6,q2] at htb
                    obtain rfl:true=tb:=by simpa using htb
                    repeat' (first|go_values|go_skip|go_guarded|go_step|go_upon|(simp only [];go_at_K))
                    go_meet
                    exact ⟨rfl,rfl⟩
                  | false=>
                    rw [q4,q6,q2] at htb
                    simp only [Bool.false_or] at htb
                    repeat' (first|go_values|go_skip|go_guarded|go_step|go_upon|(simp only [];go_at_K))
                    go_meet
                    exact ⟨by first | rfl | rw [htb],rfl⟩
            case rest=>
              obtain ⟨rfl,hwc⟩:=hcut
              subst hwc
              cases tb with
              | false=>
                repeat' (first|go_values|go_skip|go_guarded|go_step|go_upon|(simp only [];go_at_K))
                refine ⟨KeptR.mk ⟨k + 1,ts',At',ct',by omega,by simp,rfl,?_,hoT,hfar7,ho7,h7,U77⟩,by simp [intOf];omega⟩
                rw [HNEW.out];simp
              | true=>
                repeat' ((fail_if_success (with_reducible refine stop_append rfl ?_));first|go_values|go_skip|go_guarded|go_step|go_upon|(simp only [];go_at_K))
                refine wpList_push rfl _ _ 26 rfl 32 Tryz.underlying26 infoMsg rfl (by decide) hoT rfl wr.heap.size rfl rfl (news:=x.cells) rfl rfl (by unfold maxLen;omega) (by omega) ?_
                intro A8 c8 w8 ho8 hu8
                have hl7:=h7.lt
                have hl8:=ho7.lt
                have h8:=h7.upd hu8 (fun q hq hm=>(hfar7 q hm).1 hq) (fun z hz q hq=>tag_offs (h7.byt z hz).tag hoT.tag (by decide) q hq)
                have ho9:=ho7.upd hu8 (fun q hq hm=>(hfar7 q hm).2.2 hq)
                have U8:=U77.ownL (fun q hq=>(hfar7 q hq).2.1) hu8
                have hfar8:∀q∈ablk A8,q∉M7.fp∧w.heap.size≤q∧q∉ablk (some ae):=fun q hq=>by
                  rcases hu8.fresh q hq with hh | hh
                  · exact hfar7 q hh
                  · have:=U77.size
                    exact ⟨fun hm=>by have:=hl7 q hm;omega,by omega,fun hm=>by have:=hl8 q hm;omega⟩
                clear hoT hfar7 ho7 h7 U77 hu8 hl7 hl8
                repeat' (first|go_values|go_skip|go_guarded|go_step|go_upon|(simp only [];go_at_K))
                go_roundw
                case rel=>
                  refine KeptR.mk ⟨k + 1,ts' ++ [x],A8,c8,by omega,by simp,by simp,?_,?_,hfar8,ho9,h8,U8⟩
                  · rw [HNEW.out];simp
                  · rw [List.length_append,List.flatMap_append];simpa using ho8
                case measure=>simp [intOf];omega
          · obtain rfl:k=td.length:=by omega
            have hil:¬ ((td.length:Int) < (td.length:Int)):=by omega
            rw [List.take_of_length_le (Nat.le_refl _)] at hts'
            have hI3:Inv M7.pl (ts'.map Mv.ms) c:=hI2.sub fun x hx=>by
              rw [hts',List.map_append] at hx
              rcases List.mem_append.1 hx with hx | hx
              · exact List.mem_append.2 (.inl hx)
              · obtain ⟨z,hz,rfl⟩:=List.mem_map.1 hx
                exact List.mem_append.2 (.inr (List.mem_map_of_mem (List.mem_filter.1 hz).1))
            have hts3:∀x∈ts',x.ms.May∧x.ms.Tells:=fun x hx=>by
              rw [hts'] at hx
              rcases List.mem_append.1 hx with hx | hx
              · exact hts x hx
              · obtain ⟨h1,h2⟩:=List.mem_filter.1 hx
                exact ⟨hmay _ (List.mem_map_of_mem h1),(tellsB_iff x.ms).1 h2⟩
            have htl3:ts'.length≤(j + 1) * 400000000:=by
              rw [hts',List.length_append]
              have:=List.length_filter_le (fun x:Mv=>tellsB x.k) td
              omega
            clear hts' hI2 hts hmay htl ho7
            repeat' (first|go_values|go_skip|go_guarded|go_step|go_upon|(simp only [];go_at_K))
            go_loopw [13] (fun v13 wr=>KeptR (∃(q:Nat),q≤ts'.length∧v13= .int .i64 (q:Int)∧SiteS wr M7∧Agio.Own 32 10 wr At' ts'.length ct' (ts'.flatMap Mv.cells)∧Upd [] M7.fp w wr)) (fun v13 _=>ts'.length - (intOf v13).toNat)
            case atStart=>exact KeptR.mk ⟨0,by omega,rfl,h7,hoT,U77⟩
            case round=>
              obtain ⟨q,hq,rfl,h7,hoT,U77⟩:=hrel.out
              clear hrel
              obtain ⟨E,hE⟩:∃E,(decide (q < ts'.length) && !M7.pl.down)=E:=⟨_,rfl⟩
              have HE:=Lib.hid hE
              clear hE
              have C1:=siteDown wr M7 h7
              rw [SiteV.ptr,hg7'] at C1
              go_upto_region 16 with fail
              go_cut [91] from 83 to 106 (fun s91 wc=>s91= .bool E∧wr=wc)
              case first=>
                by_cases h1:q < ts'.length
                · have hd1:decide (q < ts'.length)=true:=decide_eq_true h1
                  have hi2:(q:Int) < (ts'.length:Int):=by omega
                  repeat' (first|go_values|go_skip|go_guarded|go_step|go_upon|(simp only [];go_at_K))
                  ((with_reducible refine C1.mono ?_);rintro e w' ⟨rfl,rfl⟩)
                  repeat' (first|go_values|go_skip|go_guarded|go_step|go_upon|(simp only [];go_at_K))
                  go_meet
                  exact ⟨by rw [←HE.out,hd1];rfl,rfl⟩
                · have hd1:decide (q < ts'.length)=false:=decide_eq_false h1
                  have hi2:¬ (q:Int) < (ts'.length:Int):=by omega
                  repeat' (first|go_values|go_skip|go_guarded|go_step|go_upon|(simp only [];go_at_K))
                  go_meet
                  exact ⟨by rw [←HE.out,hd1];rfl,rfl⟩
              case rest=>
                obtain ⟨rfl,hwc⟩:=hcut
                subst hwc
                clear C1
                cases E with
                | false=>
                  have hfar9:∀k∈ablk At',k∉M7.fp∧w.heap.size≤k:=fun k hk=>⟨(hfar7 k hk).1,(hfar7 k hk).2.1⟩
                  have hc9:80 - (j + 1)=c:=by omega
                  rw [←hc9] at hI3
                  repeat' (first|go_values|go_skip|go_guarded|go_step|go_upon|(simp only [];go_at_K))
                  go_roundw
                  case rel=>exact KeptR.mk ⟨j + 1,M7,ts',At',ct',by omega,by omega,by simp,rfl,hoT,hI3,hts3,htl3,h7,hg7',hfar9,U77⟩
                  case measure=>simp [intOf];omega
                | true=>
                  have hqq:q < ts'.length∧M7.pl.down=false:=by have:=HE.out;simpa using this
                  have hi2:(q:Int) < (ts'.length:Int):=by omega
                  have hw3:IntKind.i64.wrap ((q:Int) + 1)=(q:Int) + 1:=by rw [IntKind.wrap_i64];omega
                  have HRT:RdS Mv.cells 10 wr At' ts'.length ts':=⟨rfl,hoT.rd⟩
                  obtain ⟨ae,rfl,e0,ej⟩:=RdS.at_ (f:=Mv.cells) (s:=10) (fun _=>rfl) HRT hqq.1
                  obtain ⟨hxm,hxt⟩:=hts3 _ (List.getElem_mem hqq.1)
                  have hkp:=hI3.kept hqq.2 _ (List.mem_map_of_mem (List.getElem_mem hqq.1)) hxt
                  generalize ts'[q]=x at *
                  have p0:wr.drew.cell? (ae.add (q * 10))=some (.int .i64 x.k):=e0 _ rfl
                  have p1:wr.drew.cell? ⟨(ae.add (q * 10)).block,(ae.add (q * 10)).off + 1,none⟩=some (.int .i64 x.f):=ej 1 _ (by omega) rfl
                  have p2:wr.drew.cell? ⟨(ae.add (q * 10)).block,(ae.add (q * 10)).off + 2,none⟩=some (.int .i64 x.t):=ej 2 _ (by omega) rfl
                  have p3:wr.drew.cell? ⟨(ae.add (q * 10)).block,(ae.add (q * 10)).off + 3,none⟩=some (.int .i64 x.s):=ej 3 _ (by omega) rfl
                  have p4:wr.drew.cell? ⟨(ae.add (q * 10)).block,(ae.add (q * 10)).off + 4,none⟩=some (.int .i64 x.br):=ej 4 _ (by omega) rfl
                  have p5:wr.drew.cell? ⟨(ae.add (q * 10)).block,(ae.add (q * 10)).off + 5,none⟩=some (.int .i64 x.bs):=ej 5 _ (by omega) rfl
                  have p6:wr.drew.cell? ⟨(ae.add (q * 10)).block,(ae.add (q * 10)).off + 6,none⟩=some (.int .i64 x.hr):=ej 6 _ (by omega) rfl
                  have p7:wr.drew.cell? ⟨(ae.add (q * 10)).block,(ae.add (q * 10)).off + 7,none⟩=some (.int .i64 x.hs):=ej 7 _ (by omega) rfl
                  have p8:wr.drew.cell? ⟨(ae.add (q * 10)).block,(ae.add (q * 10)).off + 8,none⟩=some (.bool x.so):=ej 8 _ (by omega) rfl
                  have p9:wr.drew.cell? ⟨(ae.add (q * 10)).block,(ae.add (q * 10)).off + 9,none⟩=some (.slice x.A x.n x.c):=ej 9 _ (by omega) rfl
                  have hsl:0≤x.s∧x.s≤4095:=hxm.slot
                  have CS:=siteState wr.drew M7 h7.drew x.s (wfI (by omega) (by omega))
                  have hkb:=keptB_of hkp
                  have CK:=fun (wx:World) (A:Option Addr) (n c:Nat)=>lawKept wx {M7.sta x.s with A:=A,n:=n,c:=c} x
                  have hpl:∀(A:Option Addr) (n c:Nat),({M7.sta x.s with A:=A,n:=n,c:=c} :Sta).pl=M7.pl.stat x.s:=fun A n c=>by rw [←SiteV.sta_pl];rfl
                  change keptB (M7.pl.stat x.s) x.ms=true at hkb
                  simp only [hpl,hkb,Mv.val_eq] at CK
                  rw [SiteV.ptr,hg7'] at CS
                  generalize M7.sta x.s=z at *
                  simp only [Sta.val] at CS CK
                  clear e0 ej HRT hxm hxt hkp hkb hpl
                  repeat' (first|go_values|go_skip|go_guarded|go_step|go_upon|(simp only [];go_at_K))
                  go_region_held3 (fun w'=>w'.cell? (ae.add (q * 10))=some (.int .i64 x.k)∧w'.cell? ⟨(ae.add (q * 10)).block,(ae.add (q * 10)).off + 1,none⟩=some (.int .i64 x.f)∧w'.cell? ⟨(ae.add (q * 10)).block,(ae.add (q * 10)).off + 2,none⟩=some (.int .i64 x.t)∧w'.cell? ⟨(ae.add (q * 10)).block,(ae.add (q * 10)).off + 3,none⟩=some (.int .i64 x.s)∧w'.cell? ⟨(ae.add (q * 10)).block,(ae.add (q * 10)).off + 4,none⟩=some (.int .i64 x.br)∧w'.cell? ⟨(ae.add (q * 10)).block,(ae.add (q * 10)).off + 5,none⟩=some (.int .i64 x.bs)∧w'.cell? ⟨(ae.add (q * 10)).block,(ae.add (q * 10)).off + 6,none⟩=some (.int .i64 x.hr)∧w'.cell? ⟨(ae.add (q * 10)).block,(ae.add (q * 10)).off + 7,none⟩=some (.int .i64 x.hs)∧w'.cell? ⟨(ae.add (q * 10)).block,(ae.add (q * 10)).off + 8,none⟩=some (.bool x.so)∧w'.cell? ⟨(ae.add (q * 10)).block,(ae.add (q * 10)).off + 9,none⟩=some (.slice x.A x.n x.c))
                    (first | exact ⟨p0,p1,p2,p3,p4,p5,p6,p7,p8,p9⟩ | exact ⟨r0,r1,r2,r3,r4,r5,r6,r7,r8,r9⟩ | exact ⟨s0,s1,s2,s3,s4,s5,s6,s7,s8,s9⟩)
                    (first
                      | (go_at_call 19;(with_reducible refine CS.mono ?_);rintro e w4 ⟨A4,n4,c4,rfl,-,u4⟩
                         have r0:=u4.cell p0 (by simp)
                         have r1:=u4.cell p1 (by simp)
                         have r2:=u4.cell p2 (by simp)
                         have r3:=u4.cell p3 (by simp)
                         have r4:=u4.cell p4 (by simp)
                         have r5:=u4.cell p5 (by simp)
                         have r6:=u4.cell p6 (by simp)
                         have r7:=u4.cell p7 (by simp)
                         have r8:=u4.cell p8 (by simp)
                         have r9:=u4.cell p9 (by simp))
                      | (go_at_call 18;(with_reducible refine (CK _ _ _ _).mono ?_);rintro e w5 ⟨rfl,u5⟩
                         have s0:=u5.cell r0 (by simp)
                         have s1:=u5.cell r1 (by simp)
                         have s2:=u5.cell r2 (by simp)
                         have s3:=u5.cell r3 (by simp)
                         have s4:=u5.cell r4 (by simp)
                         have s5:=u5.cell r5 (by simp)
                         have s6:=u5.cell r6 (by simp)
                         have s7:=u5.cell r7 (by simp)
                         have s8:=u5.cell r8 (by simp)
                         have s9:=u5.cell r9 (by simp)))
                  all_goals (repeat' ((fail_if_success (with_reducible refine stop_append rfl ?_));first | go_values | go_skip | go_guarded | go_step | go_upon | (simp only [];go_at_K)))
                  all_goals
                    have U5:Upd [] [] wr w5:=((Upd.refl [] wr).drew.trans (u4.gives (b':=[]) (by simp))).trans u5
                    have h9:=h7.upd0 U5
                    have ho9:=hoT.upd U5 (by simp)
                    have U9:=U77.trans (U5.up _)
                    go_roundw
                    case rel=>exact KeptR.mk ⟨q + 1,by omega,by simp,h9,ho9,U9⟩
                    case measure=>simp [intOf];omega
end Go.Proofs.YtijhlbeipglieaaGreat
