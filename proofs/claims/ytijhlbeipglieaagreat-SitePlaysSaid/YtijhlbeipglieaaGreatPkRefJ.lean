/- For SitePlays. -/
import Derived.Test.YtijhlbeipglieaaGreatPkRefD
set_option linter.all false
set_option maxRecDepth 100000
set_option maxHeartbeats 8000000
namespace aA
open Go List
def jd:List UInt8→Nat
 |[]=>0
 |c::r=>c.toNat % 128+128*jd r
theorem AV(a b:List UInt8):jd (a++b)=jd a+128^a.length*jd b:=by
 induction a with
 |nil=>simp[jd]
 |cons c a ih=>
  simp only[cons_append,jd,ih,length_cons,Nat.pow_succ]
  rw[Nat.mul_add,Nat.mul_comm (128^a.length) 128,Nat.mul_assoc];omega
theorem Yk(hi:List UInt8):∀(i acc:Nat)(l:List UInt8),(∀c∈hi,128≤c.toNat)→i+hi.length≤9→jG i acc (hi++l)=jG (i+hi.length) (acc+jd hi*128^i) l:=by
 induction hi with
 |nil=>intro i acc l _ _;simp[jd]
 |cons c hi ih=>
  intro i acc l h hl
  simp only[length_cons]at hl
  rw[cons_append,tY (by omega) (h c (by simp)),ih _ _ _ (fun d hd=>h d (by simp[hd])) (by omega)]
  simp only[length_cons,jd]
  rw[show i+1+hi.length=i+(hi.length+1) by omega,Nat.add_mul,Nat.pow_succ,Nat.add_assoc]
  congr 3
  rw[Nat.mul_comm (128^i) 128,←Nat.mul_assoc,Nat.mul_comm (jd hi) 128]
def Hi(l:List UInt8)(k:Nat):Prop:=k≤l.length∧∀j (h:j<l.length),j<k→128≤l[j].toNat
theorem Hi.zero(l:List UInt8):Hi l 0:=⟨by omega,fun _ _ h=>absurd h (by omega)⟩
theorem Hi.succ{l:List UInt8}{k:Nat}(h:Hi l k)(hk:k<l.length)(hc:128≤l[k].toNat):Hi l (k+1):=
 ⟨hk,fun j hj hlt=>by
  rcases Nat.lt_or_ge j k with h1|h1
  ·exact h.2 j hj h1
  ·obtain rfl:j=k:=by omega
   exact hc⟩
theorem Hi.take{l:List UInt8}{k:Nat}(h:Hi l k):∀c∈l.take k,128≤c.toNat:=by
 intro c hc
 obtain⟨j,hj,rfl⟩:=getElem_of_mem hc
 simp at hj
 rw[getElem_take]
 exact h.2 j (by omega) (by omega)
theorem uH{l:List UInt8}{k:Nat}(h:Hi l k)(hk:k≤9):uv l=jG k (jd (l.take k)) (l.drop k):=by
 have hl:(l.take k).length=k:=by rw[length_take];have:=h.1;omega
 have:=Yk (l.take k) 0 0 (l.drop k) h.take (by omega)
 rw[take_append_drop,hl]at this
 simpa[uv]using this
theorem Ni{l:List UInt8}(h:Hi l 10):uv l=(0,0,2):=by
 have h9:Hi l 9:=⟨by have:=h.1;omega,fun j hj hlt=>h.2 j hj (by omega)⟩
 have hl:9<l.length:=by have:=h.1;omega
 rw[uH h9 (by omega),drop_eq_getElem_cons hl,qC rfl (by have:=h.2 9 hl (by omega);omega)]
theorem Vl{l:List UInt8}(h:Hi l 9)(hl:9<l.length)(hc:1<l[9].toNat):uv l=(0,0,2):=by
 rw[uH h (by omega),drop_eq_getElem_cons hl,qC rfl hc]
theorem Rl{l:List UInt8}{k:Nat}(h:Hi l k)(hk:k≤9)(hl:l.length≤k):uv l=(0,0,3):=by
 rw[uH h hk,drop_of_length_le hl];rfl
theorem Vm{l:List UInt8}{k:Nat}(h:Hi l k)(hk:k≤9)(hl:k<l.length)(h0:0<k)(hc:l[k].toNat=0):uv l=(0,0,2):=by
 rw[uH h hk,drop_eq_getElem_cons hl,tZ hc h0]
theorem get_some{l:List UInt8}{k:Nat}(h:Hi l k)(hk:k≤9)(hl:k<l.length)(hc:l[k].toNat<128)(h9:¬ (k=9∧1<l[k].toNat))(h0:¬ (l[k].toNat=0∧0<k)):uv l=(jd (l.take (k+1)),k+1,0):=by
 have hlen:(l.take k).length=k:=by rw[length_take];omega
 rw[uH h hk,drop_eq_getElem_cons hl,oG h9 hc h0,take_succ_eq_append_getElem hl,AV,hlen]
 simp only[jd,Nat.mul_zero,Nat.add_zero]
 rw[Nat.mul_comm (128^k)]
def lg(l:List UInt8)(k i:Nat):Nat:=jd ((l.take (k+1)).drop i)
theorem zx(l:List UInt8)(k:Nat):lg l k (k+1)=0:=by unfold lg;rw[drop_of_length_le (by simp;omega)];rfl
theorem OI{l:List UInt8}{k i:Nat}(hl:i<l.length)(hi:i≤k):lg l k i=lg l k (i+1)*128+l[i].toNat % 128:=by
 unfold lg
 rw[drop_eq_getElem_cons (by simp;omega)]
 simp only[jd,getElem_take]
 omega
theorem BI(l:List UInt8)(k:Nat):∀i,lg l k i≤jd (l.take (k+1)):=by
 intro i
 unfold lg
 conv=>rhs;rw[←take_append_drop i (l.take (k+1))]
 rw[AV]
 have:=Nat.le_mul_of_pos_left (jd (List.drop i (List.take (k+1) l))) (Nat.pow_pos (n:=(List.take i (List.take (k+1) l)).length) (show 0<128 by omega))
 omega
end aA
namespace Go.Proofs.YtijhlbeipglieaaGreat
open Go.RowKit aA Go.Proofs.Tryz List
theorem BJ{h v:Nat}(hU:dZ (h*128+v % 128)):Value.int .u64 (IntKind.u64.wrap (IntKind.u64.wrap ((h:Int)*128)+(v:Int) % 128))=.int .u64 ((h*128+v % 128:Nat):Int):=by
 unfold dZ at hU;simp only[IntKind.wrap_u64,Value.int.injEq,true_and];omega
theorem aaS(w:World)(A:Option Addr)(n c:Nat)(b:List UInt8)(hr:aD w A n b)(hn:b.length≤140737488355328)(a:Nat)(ha:a≤b.length) :
  Calls prog 274 #[.slice A n c,.int .i64 (a:Int)] w fun e w'=>e=.returned (.tuple #[.int .u64 ((uv (b.drop a)).1:Int),.int .i64 ((uv (b.drop a)).2.1:Int),.int .i64 ((uv (b.drop a)).2.2:Int)])∧w=w':=by
 obtain rfl:=hr.len
 obtain⟨l,hl⟩:∃l,l=b.drop a:=⟨_,rfl⟩
 have hll:l.length=b.length-a:=by rw[hl];simp
 have aei:∀k (h:k<l.length) (h2:a+k<b.length),l[k]=b[a+k]:=by intro k h h2;subst hl;simp
 rw[←hl]
 clear hl
 have nA:=hdn hll;clear hll
 have HG:=hdn aei;clear aei
 go_enter func274,ntmps274
 repeat' go_step
 go_loop [7] (fun v7=>∃k:Nat,v7=.int .i64 (k:Int)∧k≤10∧Hi l k) (fun v7=>10-(intOf v7).toNat)
 case atStart=>exact⟨0,rfl,by omega,Hi.zero _⟩
 case round=>
  obtain⟨k,rfl,hk,hhi⟩:=hrel
  have hkl:k≤b.length-a:=by have:=hhi.1;have:=nA.out;omega
  by_cases h1:a+k<b.length
  ·have h1':k<l.length:=by have:=nA.out;omega
   by_cases h2:k<10
   ·obtain⟨ad,u,rfl,hx,acM⟩:=Rd.at_ hr (k:=a+k) h1
    rw[iq b (a+k) h1]at hx
    obtain rfl:=Option.some.inj hx
    have hcn:b[a+k].toNat<256:=b[a+k].toNat_lt
    have HE:=hdn (HG.out k h1' h1)
    clear hx
    generalize hce:b[a+k].toNat=cn at *
    have HC:Hid (l[k].toNat=cn):=by rw[HE.out];exact hce
    clear hce HE
    by_cases h3:128≤cn
    ·as_aux_lemma=>
     repeat' first|go_guarded|go_step
     refine⟨⟨k+1,by simp,by omega,hhi.succ h1' (by rw[HC.out];exact h3)⟩,by simp[intOf];omega⟩
    ·have aaT:((k:Int)==10)=false:=by simp;omega
     have hd2:decide ((a:Int)+(k:Int)<(b.length:Int))=true:=dTo
     have hd4:decide ((b.length:Int)≤(a:Int)+(k:Int))=false:=dFo
     have hv:Hid (¬ (k=9∧1<cn)→¬ (cn=0∧0<k)→uv l=(jd (l.take (k+1)),k+1,0)):=fun h4 h5=>get_some hhi (by omega) h1' (by rw[HC.out];omega) (by rw[HC.out];exact h4) (by rw[HC.out];exact h5)
     have hz:Hid (cn=0→0<k→uv l=(0,0,2)):=fun h4 h5=>Vm hhi (by omega) h1' h5 (by rw[HC.out];exact h4)
     have hh:Hid (∀i,(i≤k)→∃v:Nat,v<256∧w.cell? (ad.add (a+i))=some (.int .u8 (v:Int))∧lg l k i=lg l k (i+1)*128+v % 128):=by
      intro i hi
      have hib:a+i<b.length:=by omega
      have hil:i<l.length:=by omega
      obtain⟨PG,u,e',hx,amk⟩:=Rd.at_ hr (k:=a+i) hib
      injection e' with e';subst e'
      rw[iq b (a+i) hib]at hx
      obtain rfl:=Option.some.inj hx
      exact⟨b[a+i].toNat,b[a+i].toNat_lt,amk,by rw[OI hil hi,HG.out i hil hib]⟩
     by_cases h9:k=9
     ·have ahx:w.cell? ⟨ad.block,ad.off+(a+8+1),none⟩=some (.int .u8 (cn:Int)):=by subst h9;exact acM
      have JU:((k:Int)==9)=true:=by simp;omega
      have hk0:0<k:=by omega
      have h19:a+9<b.length:=by omega
      by_cases h10:1<cn
      ·have E:Hid (uv l=(0,0,2)):=by subst h9;exact Vl hhi h1' (by rw[HC.out];exact h10)
       clear h9
       as_aux_lemma=>
       repeat' first|go_guarded|go_step
       go_ret3
       exact⟨by rw[E.out];rfl,rfl⟩
      ·by_cases h0:cn=0
       ·have E:Hid (uv l=(0,0,2)):=hz.out h0 hk0
        have h0':((cn:Int)==0)=true:=by simp;omega
        clear h9 h0
        as_aux_lemma=>
        repeat' first|go_guarded|go_step
        go_ret3
        exact⟨by rw[E.out];rfl,rfl⟩
       ·have E:Hid (uv l=(jd (l.take (k+1)),k+1,0)):=hv.out (by omega) (by omega)
        have h0':((cn:Int)==0)=false:=by simp;omega
        clear h9
        have Rm:Hid (dZ (jd (l.take (k+1)))):=by have:=(sJ (l:=l) (by rw[E.out])).2.2.2;rw[E.out]at this;exact this
        clear hv hz
        as_aux_lemma=>
        repeat' first|go_guarded|go_step
        go_loop [8,9] (fun v8 v9=>∃x:Int,-1≤x∧x≤(k:Int)∧v9=.int .i64 x∧v8=.int .u64 ((lg l k (x+1).toNat:Nat):Int)) (fun _ v9=>(intOf v9+1).toNat)
        case atStart=>exact⟨k,by omega,by omega,rfl,by rw[show((k:Int)+1).toNat=k+1 by omega,zx];rfl⟩
        case round=>
         obtain⟨x,hx0,hx1,rfl,rfl⟩:=hrel
         by_cases hx:0≤x
         ·obtain⟨i,rfl⟩:=Int.eq_ofNat_of_zero_le hx
          obtain⟨v,Xe,hci,hst⟩:=hh.out i (by omega)
          have hU:Hid (dZ (lg l k i)):=Rm.out.le (BI l k i)
          rw[show((i:Int)+1).toNat=i+1 by omega]
          have hib:(a:Int)+(i:Int)<(b.length:Int):=by omega
          have HST:=hdn hst;clear hst
          clear acM h1 hd2 hd4
          refine wk ?_
          refine⟨⟨(i:Int)-1,by omega,by omega,rfl,?_⟩,by simp[intOf]<;>omega⟩
          rw[show((i:Int)-1+1).toNat=i by omega,HST.out]
          exact BJ (by rw[←HST.out];exact hU.out)
         ·obtain rfl:x= -1:=by omega
          refine wk ?_
          go_ret3
          exact⟨by rw[E.out];rfl,rfl⟩
     ·have JU:((k:Int)==9)=false:=by simp;omega
      by_cases hk0:0<k
      ·by_cases h0:cn=0
       ·have E:Hid (uv l=(0,0,2)):=hz.out h0 hk0
        have h0':((cn:Int)==0)=true:=by simp;omega
        clear h9 h0
        as_aux_lemma=>
        repeat' first|go_skip|go_guarded|go_step
        go_ret3
        exact⟨by rw[E.out];rfl,rfl⟩
       ·have E:Hid (uv l=(jd (l.take (k+1)),k+1,0)):=hv.out (by omega) (by omega)
        have h0':((cn:Int)==0)=false:=by simp;omega
        clear h9
        have Rm:Hid (dZ (jd (l.take (k+1)))):=by have:=(sJ (l:=l) (by rw[E.out])).2.2.2;rw[E.out]at this;exact this
        clear hv hz
        as_aux_lemma=>
        repeat' first|go_skip|go_guarded|go_step
        go_loop [8,9] (fun v8 v9=>∃x:Int,-1≤x∧x≤(k:Int)∧v9=.int .i64 x∧v8=.int .u64 ((lg l k (x+1).toNat:Nat):Int)) (fun _ v9=>(intOf v9+1).toNat)
        case atStart=>exact⟨k,by omega,by omega,rfl,by rw[show((k:Int)+1).toNat=k+1 by omega,zx];rfl⟩
        case round=>
         obtain⟨x,hx0,hx1,rfl,rfl⟩:=hrel
         by_cases hx:0≤x
         ·obtain⟨i,rfl⟩:=Int.eq_ofNat_of_zero_le hx
          obtain⟨v,Xe,hci,hst⟩:=hh.out i (by omega)
          have hU:Hid (dZ (lg l k i)):=Rm.out.le (BI l k i)
          rw[show((i:Int)+1).toNat=i+1 by omega]
          have hib:(a:Int)+(i:Int)<(b.length:Int):=by omega
          have HST:=hdn hst;clear hst
          clear acM h1 hd2 hd4
          refine wk ?_
          refine⟨⟨(i:Int)-1,by omega,by omega,rfl,?_⟩,by simp[intOf]<;>omega⟩
          rw[show((i:Int)-1+1).toNat=i by omega,HST.out]
          exact BJ (by rw[←HST.out];exact hU.out)
         ·obtain rfl:x= -1:=by omega
          refine wk ?_
          go_ret3
          exact⟨by rw[E.out];rfl,rfl⟩
      ·have E:Hid (uv l=(jd (l.take (k+1)),k+1,0)):=hv.out (by omega) (by omega)
       clear h9
       have Rm:Hid (dZ (jd (l.take (k+1)))):=by have:=(sJ (l:=l) (by rw[E.out])).2.2.2;rw[E.out]at this;exact this
       clear hv hz
       as_aux_lemma=>
       repeat' first|go_skip|go_guarded|go_step
       go_loop [8,9] (fun v8 v9=>∃x:Int,-1≤x∧x≤(k:Int)∧v9=.int .i64 x∧v8=.int .u64 ((lg l k (x+1).toNat:Nat):Int)) (fun _ v9=>(intOf v9+1).toNat)
       case atStart=>exact⟨k,by omega,by omega,rfl,by rw[show((k:Int)+1).toNat=k+1 by omega,zx];rfl⟩
       case round=>
        obtain⟨x,hx0,hx1,rfl,rfl⟩:=hrel
        by_cases hx:0≤x
        ·obtain⟨i,rfl⟩:=Int.eq_ofNat_of_zero_le hx
         obtain⟨v,Xe,hci,hst⟩:=hh.out i (by omega)
         have hU:Hid (dZ (lg l k i)):=Rm.out.le (BI l k i)
         rw[show((i:Int)+1).toNat=i+1 by omega]
         have hib:(a:Int)+(i:Int)<(b.length:Int):=by omega
         have HST:=hdn hst;clear hst
         clear acM h1 hd2 hd4
         refine wk ?_
         refine⟨⟨(i:Int)-1,by omega,by omega,rfl,?_⟩,by simp[intOf]<;>omega⟩
         rw[show((i:Int)-1+1).toNat=i by omega,HST.out]
         exact BJ (by rw[←HST.out];exact hU.out)
        ·obtain rfl:x= -1:=by omega
         refine wk ?_
         go_ret3
         exact⟨by rw[E.out];rfl,rfl⟩
   ·have E:Hid (uv l=(0,0,2)):=by
                       obtain rfl:k=10:=by omega
                       exact Ni hhi
    have aaT:((k:Int)==10)=true:=by simp;omega
    as_aux_lemma=>
    repeat' first|go_skip|go_guarded|go_step
    go_ret3
    exact⟨by rw[E.out];rfl,rfl⟩
  ·have hd2:decide ((a:Int)+(k:Int)<(b.length:Int))=false:=dFo
   have hd4:decide ((b.length:Int)≤(a:Int)+(k:Int))=true:=dTo
   by_cases h2:k=10
   ·have E:Hid (uv l=(0,0,2)):=by subst h2;exact Ni hhi
    have aaT:((k:Int)==10)=true:=by simp;omega
    clear h2
    as_aux_lemma=>
    refine wk ?_
    go_ret3
    exact⟨by rw[E.out];rfl,rfl⟩
   ·have E:Hid (uv l=(0,0,3)):=Rl hhi (by omega) (by have:=nA.out;omega)
    have h10:((k:Int)==10)=false:=by simp;omega
    by_cases h9:k=9
    ·have JU:((k:Int)==9)=true:=by simp;omega
     have h19:¬ (a+9<b.length):=by omega
     clear h9 h2
     as_aux_lemma=>
     repeat' first|go_skip|go_guarded|go_step
     go_ret3
     exact⟨by rw[E.out];rfl,rfl⟩
    ·have JU:((k:Int)==9)=false:=by simp;omega
     as_aux_lemma=>
     refine wk ?_
     go_ret3
     exact⟨by rw[E.out];rfl,rfl⟩
theorem JV(w:World)(A:Option Addr)(n c:Nat)(b:List UInt8)(hr:aD w A n b)(hn:b.length≤140737488355328)(a:Nat)(ha:a≤b.length)(most:Int)(hm:uL most) :
  Calls prog 240 #[.slice A n c,.int .i64 (a:Int),.int .i64 most] w fun e w'=>e=.returned (.tuple #[.int .i64 ((eB most (b.drop a)).1:Int),.int .i64 ((eB most (b.drop a)).2.1:Int),.int .i64 ((eB most (b.drop a)).2.2:Int)])∧w=w':=by
 have C:=aaS w A n c b hr hn a ha
 generalize b.drop a=l at C ⊢
 obtain⟨m,sz,bad,hu⟩:∃m sz bad,uv l=(m,sz,bad):=⟨_,_,_,rfl⟩
 have hok:=sJ (l:=l)
 unfold uL at hm
 rw[hu]at C hok
 by_cases h0:bad=0
 ·subst h0
  have hU:=(hok rfl).2.2.2
  have hs:=(hok rfl).2.2.1
  clear hok
  by_cases h1:most<0
  ·have E:Hid (eB most l=(0,0,8)):=by unfold eB Hid;rw[hu];simp[h1]
   clear hu
   go_enter func240,ntmps240
   repeat' go_step
   refine C.mono ?_
   rintro e w1 ⟨rfl,rfl⟩
   refine wk ?_
   go_ret3
   exact⟨by rw[E.out];rfl,rfl⟩
  ·by_cases h2:most<(m:Int)
   ·have E:Hid (eB most l=(0,0,8)):=by unfold eB Hid;rw[hu];simp[h1,h2]
    clear hu
    go_enter func240,ntmps240
    repeat' go_step
    refine C.mono ?_
    rintro e w1 ⟨rfl,rfl⟩
    refine wk ?_
    go_ret3
    exact⟨by rw[E.out];rfl,rfl⟩
   ·have E:Hid (eB most l=(m,sz,0)):=by unfold eB Hid;rw[hu];simp[h1,h2]
    clear hu
    go_enter func240,ntmps240
    repeat' go_step
    refine C.mono ?_
    rintro e w1 ⟨rfl,rfl⟩
    refine wk ?_
    go_ret3
    exact⟨by rw[E.out];rfl,rfl⟩
 ·have E:Hid (eB most l=(0,0,bad)):=by unfold eB Hid;rw[hu];simp[h0]
  have Xf:((bad:Int) != 0)=true:=by simp;omega
  clear hu hok
  go_enter func240,ntmps240
  repeat' go_step
  refine C.mono ?_
  rintro e w1 ⟨rfl,rfl⟩
  refine wk ?_
  go_ret3
  exact⟨by rw[E.out];rfl,rfl⟩
theorem Yl(w:World)(A:Option Addr)(n c:Nat)(b:List UInt8)(hr:aD w A n b)(hc:n≤c)(hcm:c≤maxLen)(hn:b.length≤140737488355328)(a:Nat)(ha:a≤b.length)(most:Int)(hm:uL most) :
  Calls prog 241 #[.slice A n c,.int .i64 (a:Int),.int .i64 most] w fun e w'=>∃A' k' c',e=.returned (.tuple #[.slice A' k' c',.int .i64 ((tk most (b.drop a)).2.1:Int),.int .i64 ((tk most (b.drop a)).2.2:Int)])∧
   aT 5 w' A' k' c' (tk most (b.drop a)).1∧aa [] (ah A') w w':=by
 obtain rfl:=hr.len
 have C:=JV w A b.length c b hr hn a ha most hm
 have hok:=CZ (l:=b.drop a) (most:=most)
 have huv:=sJ (l:=b.drop a)
 have hll:(b.drop a).length=b.length-a:=by simp
 rw[hll]at huv
 have HV:=hdn huv;clear huv
 have HL:=hdn hll;clear hll
 obtain⟨m,sz,bad,hu⟩:∃m sz bad,eB most (b.drop a)=(m,sz,bad):=⟨_,_,_,rfl⟩
 rw[hu]at C hok
 have HT:=hdn hu;clear hu
 by_cases h0:bad=0
 ·subst h0
  obtain⟨h1,h2,h3,h4⟩:=hok rfl
  have h5:=HV.out h1
  rw[←h2]at h5 h4
  have hs:sz≤10:=h5.2.2.1
  have hs2:sz≤b.length-a:=h5.2.1
  have hnm:(m:Int)≤most:=h4
  have hI:(m:Int)≤9223372036854775807:=by unfold uL at hm;omega
  have YS:(c:Int)≤9223372036854775807:=by unfold maxLen at hcm;omega
  clear hok h1 h2 h5 HV h4
  by_cases hlt:b.length-a-sz<m
  ·have E:Hid (tk most (b.drop a)=([],0,3)):=Bp HT.out (by rw[HL.out];exact hlt)
   clear HT
   rw[E.out]
   have hd:decide ((b.length:Int)-a-sz<m)=true:=dTo
   clear hlt
   go_enter func241,ntmps241
   repeat' (fail_if_success with_reducible refine Ag rfl ?_);go_step
   refine C.mono ?_
   rintro e w1 ⟨rfl,rfl⟩
   refine wk ?_
   go_ret3
   exact⟨none,0,0,rfl,aT.nil _ _,aa.refl _ _⟩
  ·have E:Hid (tk most (b.drop a)=(((b.drop a).drop sz).take m,sz+m,0)):=GJ HT.out (by rw[HL.out];exact hlt)
   clear HT
   rw[E.out]
   have hd:decide ((b.length:Int)-a-sz<m)=false:=dFo
   have hx1:(0:Int)≤(a:Int)+sz:=by omega
   have hx2:(a:Int)+sz≤(a:Int)+sz+m:=by omega
   have hx3:(a:Int)+sz+m≤(c:Int):=by omega
   have hrd:aD w (if c=a+sz then A else Option.map (fun x=>x.add (a+sz)) A) m (((b.drop a).drop sz).take m):=by
    have h1:=(hr.cut (k:=a+sz) (cap:=c) (by omega) hc).take (k:=m) (by omega)
    simpa[aD,iH,map_drop,map_take,drop_drop]using h1
   have agI:a+sz+m-(a+sz)=m:=by omega
   have yE:=hdn agI;clear agI
   have hle:(((b.drop a).drop sz).take m).length≤140737488355328:=by simp;omega
   clear hlt
   go_enter func241,ntmps241
   repeat' (fail_if_success with_reducible refine Ag rfl ?_);go_step
   refine C.mono ?_
   rintro e w1 ⟨rfl,rfl⟩
   repeat' (fail_if_success with_reducible refine Ag rfl ?_);first|go_step|simp only[];go_at_K
   rw[yE.out]
   refine eD rfl _ _ 28 rfl 5 underlying28 gp (aT.made _ _) rfl (hrd.alloc _) rfl (by simpa using hle) ?_
   intro A2 k2 c2 w2 ho2 hu2
   refine wk ?_
   go_ret3
   exact⟨A2,k2,c2,rfl,by simpa using ho2,(((aa.refl [] w).alloc _).gives (by simp[ah])).trans hu2⟩
 ·have E:Hid (tk most (b.drop a)=([],0,bad)):=IU HT.out h0
  have Xf:((bad:Int) != 0)=true:=by simp;omega
  clear hok HV HT
  rw[E.out]
  go_enter func241,ntmps241
  repeat' (fail_if_success with_reducible refine Ag rfl ?_);go_step
  refine C.mono ?_
  rintro e w1 ⟨rfl,rfl⟩
  refine wk ?_
  go_ret3
  exact⟨none,0,0,rfl,aT.nil _ _,aa.refl _ _⟩
def ae8(b:List UInt8)(z:Nat)(w:World)(e:Ending):Prop:=
 (lW b=none∧e=.returned (.tuple #[.agg #[.int .i64 0,.int .i64 0,.int .i64 0,.int .i64 0,.slice none 0 0],.int .i64 2]))∨
 ∃x:Rv,lW b=some x.rc∧aT 5 w x.A x.n x.c x.b∧(∀k∈ah x.A,z≤k)∧e=.returned (.tuple #[.agg #[.int .i64 x.k,.int .i64 x.s,.int .i64 x.r,.int .i64 x.t,.slice x.A x.n x.c],.int .i64 0])
theorem Ym{i:Nat}(h:i<4):yV[i]? =some 1099511627776:=by
 have:i=0∨i=1∨i=2∨i=3:=by omega
 rcases this with rfl|rfl|rfl|rfl<;>rfl
theorem LC(w:World)(B:Option Addr)(m d:Nat)(b:List UInt8)(hB:aD w B m b)(hmd:m≤d)(hd:d≤maxLen)(hb:b.length≤140737488355328) :
  Calls prog 224 #[.slice B m d] w fun e w'=>ae8 b w.heap.size w' e∧aa [] [] w w':=by
 have hR0:=(ak.new w 246 #[.int .i64 0,.int .i64 0,.int .i64 0,.int .i64 0,.slice none 0 0]).alloc (.cells #[.int .i64 0,.int .i64 0,.int .i64 0,.int .i64 0] 359)
 have hG0:ak ((w.alloc (.cells #[.int .i64 0,.int .i64 0,.int .i64 0,.int .i64 0,.slice none 0 0] 246)).alloc (.cells #[.int .i64 0,.int .i64 0,.int .i64 0,.int .i64 0] 359)) (w.heap.size+1) 359 (rZ []).toArray:=by
  have:=ak.new (w.alloc (.cells #[.int .i64 0,.int .i64 0,.int .i64 0,.int .i64 0,.slice none 0 0] 246)) 359 (rZ []).toArray
  rwa [World.size_alloc]at this
 have U0:=((aa.refl [] w).alloc (.cells #[.int .i64 0,.int .i64 0,.int .i64 0,.int .i64 0,.slice none 0 0] 246)).alloc (.cells #[.int .i64 0,.int .i64 0,.int .i64 0,.int .i64 0] 359)
 have HMD:=hdn hmd;clear hmd
 have HD:=hdn hd;clear hd
 go_enter func224,ntmps224
 repeat' go_step
 go_loopw [5,6,7,8,9] (fun v5 v6 _ _ _ wr=>∃(l:List Nat)(a:Nat),l.length≤4∧v6=.int .i64 (l.length:Int)∧v5=.int .i64 (a:Int)∧mU b yV l a∧ak wr (w.heap.size+1) 359 (rZ l).toArray∧ak wr w.heap.size 246 #[.int .i64 0,.int .i64 0,.int .i64 0,.int .i64 0,.slice none 0 0]∧aa [] [] w wr)
  (fun _ v6 _ _ _ _=>4-(intOf v6).toNat)
 case atStart=>exact⟨[],0,by simp,rfl,rfl,mU.zero _ _,hG0,hR0,U0⟩
 case round=>
  clear hG0 hR0 U0
  obtain⟨l,a,hl4,rfl,rfl,hst,hG,hR,U⟩:=hrel
  have hBr:=hB.upd U
  have hab:=hst.2
  by_cases hlt:l.length<4
  ·have hmo:=Ym hlt
   have C:=JV wr B m d b hBr hb a hab 1099511627776 (by unfold uL;omega)
   obtain⟨n,sz,bad,hu⟩:∃n sz bad,eB 1099511627776 (b.drop a)=(n,sz,bad):=⟨_,_,_,rfl⟩
   rw[hu]at C
   by_cases hz:bad=0
   ·subst hz
    have ajd:=hst.more hmo hu
    have hsl:a+sz≤140737488355328:=Nat.le_trans ajd.2 hb
    have HN:=hdn ajd
    have bC:=hdn (EI hlt n)
    obtain⟨y0,y1,y2,y3,hy⟩:=Hg hl4
    have hi4:l.length=0∨l.length=1∨l.length=2∨l.length=3:=by omega
    have hGn:(∃y,wr.cell? ⟨w.heap.size+1,l.length,none⟩=some (.int .i64 y))∧wr.frozen? ⟨w.heap.size+1,l.length,none⟩=false:=by
     refine⟨?_,hG.frozen _⟩
     have hW:=hG
     rw[hy]at hW
     rcases hi4 with h|h|h|h<;>rw[h]
     ·exact⟨y0,hW.cell 0⟩
     ·exact⟨y1,hW.cell 1⟩
     ·exact⟨y2,hW.cell 2⟩
     ·exact⟨y3,hW.cell 3⟩
    obtain⟨⟨y,hcy⟩,Wt⟩:=hGn
    clear ajd hst hmo hu hy hi4
    repeat' go_step
    refine C.mono ?_;rintro e w2 ⟨rfl,rfl⟩
    clear C hab
    refine wk ?_
    refine⟨⟨l++[n],a+sz,by simp;omega,by simp,by simp,HN.out,?_,hR.far (by simp) _,U.setCell (.inr (by simp)) _⟩,by simp[intOf]<;>omega⟩
    rw[←bC.out];exact hG.aO _ _
   ·have HN:=hdn (EJ (hst.bad hmo hu hz))
    have hzi:((bad:Int)==0)=false:=by simp;omega
    have hzn:((bad:Int) != 0)=true:=by simp;omega
    clear hst hmo hu
    obtain⟨⟨q0,q1,q2,q3,q4⟩,f0,f1,f2,f3,f4⟩:=hR.c5
    repeat' go_step
    refine C.mono ?_;rintro e w2 ⟨rfl,rfl⟩
    clear C
    refine wk ?_
    have N:=dM [.int .i64 0,.int .i64 0,.int .i64 0,.int .i64 0,.slice none 0 0] hR rfl U (.inr (by omega))
    simp only[setRow]at N
    generalize World.setCell _ ⟨w.heap.size,4,none⟩ _=W5 at N ⊢
    obtain⟨hN,mF⟩:=N
    clear q0 q1 q2 q3 q4
    obtain⟨⟨q0,q1,q2,q3,q4⟩,-⟩:=hN.c5
    exact bodyPost_ret (v:=.tuple #[.agg #[.int .i64 0,.int .i64 0,.int .i64 0,.int .i64 0,.slice none 0 0],.int .i64 2]) (by simp[results,results224,go_sem,q0,q1,q2,q3,q4]) rfl ⟨.inl ⟨oO (wV (.inr rfl) HN.out),rfl⟩,mF⟩
  ·obtain⟨n0,n1,n2,n3,rfl⟩:=Ce (l:=l) (by omega)
   have hN:=hst.all (by rfl)
   clear hst hlt hl4
   have C:=Yl wr B m d b hBr HMD.out HD.out hb a hab 2048 (by unfold uL;omega)
   obtain⟨v,sz,bad,hu⟩:∃v sz bad,tk 2048 (b.drop a)=(v,sz,bad):=⟨_,_,_,rfl⟩
   have HT:=hdn (LX hN hu)
   rw[hu]at C
   have hG:ak wr (w.heap.size+1) 359 #[.int .i64 (n0:Int),.int .i64 (n1:Int),.int .i64 (n2:Int),.int .i64 (n3:Int)]:=hG
   have nC:=hB.len
   by_cases hz:bad=0
   ·subst hz
    have hk:=(MB hu).2.2
    rw[length_drop]at hk
    by_cases he:a+sz=b.length
    ·have HB:=hdn (show body b yV=some ([n0,n1,n2,n3],v) by rw[HT.out,if_pos ⟨rfl,he⟩])
     have hei:((a:Int)+(sz:Int)==(m:Int))=true:=by rw[beq_iff_eq];omega
     have hen:((a:Int)+(sz:Int) != (m:Int))=false:=by rw[bne_eq_false_iff_eq];omega
     have hsl:a+sz≤140737488355328:=by omega
     clear hN hu hk he
     have Ew:=hdn nC
     clear nC
     repeat' go_step
     refine C.mono ?_;rintro e w2 ⟨A2,k2,c2,rfl,ho2,hu2⟩
     have hR2:=hR.upd hu2
     have hG2:=hG.upd hu2
     have hA2:∀k∈ah A2,w.heap.size≤k:=fun k hk=>by
      rcases hu2.fresh k hk with hh|hh
      ·cases hh
      ·have:=U.size;omega
     have U2:=(U.trans hu2).gives (b':=[]) (by simp)
     obtain⟨⟨s0,s1,s2,s3⟩,-⟩:=hG2.c4
     clear C hR hG U hu2 hab hBr
     repeat' first|go_guarded|go_step|simp only[];go_at_K
     obtain⟨x,hx⟩:∃x:Rv,x=⟨n0,n1,n2,n3,A2,k2,c2,v⟩:=⟨_,rfl⟩
     have M:=Jk x (w2.alloc (.cells #[.int .i64 (n0:Int),.int .i64 (n1:Int),.int .i64 (n2:Int),.int .i64 (n3:Int),.slice A2 k2 c2] 246)) (by rw[hx];exact ho2.rd.alloc _)
     rw[Rv.aH]at M
     have Gc:x.rc=Rc.of n0 n1 n2 n3 v:=by rw[hx];rfl
     have hxo:aT 5 w2 x.A x.n x.c x.b:=by rw[hx];exact ho2
     have hxe:(#[.agg #[.int .i64 x.k,.int .i64 x.s,.int .i64 x.r,.int .i64 x.t,.slice x.A x.n x.c]]:Array Value)=#[.agg #[.int .i64 (n0:Int),.int .i64 (n1:Int),.int .i64 (n2:Int),.int .i64 (n3:Int),.slice A2 k2 c2]]:=by rw[hx]
     rw[hxe]at M
     refine M.mono ?_;rintro e w3 ⟨⟨y,rfl,hy⟩,hu3⟩
     obtain⟨hby,sj⟩:=Hl (.inr rfl) HB.out
     rw[←Gc]at hby sj
     have hA3:=aa.trans ((aa.refl [] w2).alloc (.cells #[.int .i64 (n0:Int),.int .i64 (n1:Int),.int .i64 (n2:Int),.int .i64 (n3:Int),.slice A2 k2 c2] 246)) hu3
     have vZ:=(ak.new w2 246 #[.int .i64 (n0:Int),.int .i64 (n1:Int),.int .i64 (n2:Int),.int .i64 (n3:Int),.slice A2 k2 c2]).upd hu3
     have Vo:=hxo.upd hA3
     have je:=hR2.upd hA3
     have U3:=U2.trans hA3
     have EK:=hR2.lt
     have hg2:w.heap.size≠w2.heap.size:=by omega
     clear hxe M hxo hA3 hu3 U2 ho2 hG2 s0 s1 s2 s3
     obtain⟨⟨t0,t1,t2,t3,t4⟩,-⟩:=vZ.c5
     obtain⟨⟨q0,q1,q2,q3,q4⟩,f0,f1,f2,f3,f4⟩:=je.c5
     cases y with
     |false=>
      have uP:=hdn (oO (b:=b) (fun r hr=>by have:=sj r hr;subst this;exact absurd (hy.2 hr.1) (by simp)))
      clear hy hby sj hx Gc Vo HB HT
      have hR2:=je
      have U2:=U3
      have EK:=je.lt
      refine wk ?_
      have N:=dM [.int .i64 0,.int .i64 0,.int .i64 0,.int .i64 0,.slice none 0 0] hR2 rfl U2 (.inr (by omega))
      simp only[setRow]at N
      generalize World.setCell _ ⟨w.heap.size,4,none⟩ _=W5 at N ⊢
      obtain⟨hN,mF⟩:=N
      clear q0 q1 q2 q3 q4
      obtain⟨⟨q0,q1,q2,q3,q4⟩,-⟩:=hN.c5
      exact bodyPost_ret (v:=.tuple #[.agg #[.int .i64 0,.int .i64 0,.int .i64 0,.int .i64 0,.slice none 0 0],.int .i64 2]) (by simp[results,results224,go_sem,q0,q1,q2,q3,q4]) rfl ⟨.inl ⟨uP.out,rfl⟩,mF⟩
     |true=>
      have HDS:=hdn (yB (b:=b) (r:=x.rc) ⟨hy.1 rfl,hby⟩)
      have HX:=hdn hx
      clear hy hby sj Gc HB HT hx
      refine wk ?_
      have N:=dM [.int .i64 (n0:Int),.int .i64 (n1:Int),.int .i64 (n2:Int),.int .i64 (n3:Int),.slice A2 k2 c2] je rfl U3 (.inr (by omega))
      have N2:=dM [.int .i64 (n0:Int),.int .i64 (n1:Int),.int .i64 (n2:Int),.int .i64 (n3:Int),.slice A2 k2 c2] je rfl (aa.refl [w.heap.size] w3) (.inl (by simp))
      have dB:=Vo.upd N2.2 (fun j hj=>by simp;rintro rfl;exact Vo.own.ne je (by decide) hj)
      clear N2
      simp only[setRow]at N dB
      generalize World.setCell _ ⟨w.heap.size,4,none⟩ _=W5 at N dB ⊢
      obtain⟨hN,mF⟩:=N
      clear q0 q1 q2 q3 q4
      obtain⟨⟨q0,q1,q2,q3,q4⟩,-⟩:=hN.c5
      exact bodyPost_ret (v:=.tuple #[.agg #[.int .i64 (n0:Int),.int .i64 (n1:Int),.int .i64 (n2:Int),.int .i64 (n3:Int),.slice A2 k2 c2],.int .i64 0]) (by simp[results,results224,go_sem,q0,q1,q2,q3,q4]) rfl ⟨.inr ⟨x,HDS.out,dB,by rw[HX.out];exact hA2,by rw[HX.out]⟩,mF⟩
    ·have uP:=hdn (oO (wV (.inr rfl) (show body b yV=none by rw[HT.out,if_neg (by omega)])))
     have hei:((a:Int)+(sz:Int)==(m:Int))=false:=by rw[beq_eq_false_iff_ne];omega
     have hen:((a:Int)+(sz:Int) != (m:Int))=true:=by rw[bne_iff_ne];omega
     have hsl:a+sz≤140737488355328:=by omega
     have Ew:=hdn nC
     clear hN hu hk he HT nC
     repeat' go_step
     refine C.mono ?_;rintro e w2 ⟨A2,k2,c2,rfl,ho2,hu2⟩
     have hR2:=hR.upd hu2
     have U2:=(U.trans hu2).gives (b':=[]) (by simp)
     obtain⟨⟨q0,q1,q2,q3,q4⟩,f0,f1,f2,f3,f4⟩:=hR2.c5
     have EK:=hR2.lt
     clear C hR hG U hu2 hab hBr
     refine wk ?_
     have N:=dM [.int .i64 0,.int .i64 0,.int .i64 0,.int .i64 0,.slice none 0 0] hR2 rfl U2 (.inr (by omega))
     simp only[setRow]at N
     generalize World.setCell _ ⟨w.heap.size,4,none⟩ _=W5 at N ⊢
     obtain⟨hN,mF⟩:=N
     clear q0 q1 q2 q3 q4
     obtain⟨⟨q0,q1,q2,q3,q4⟩,-⟩:=hN.c5
     exact bodyPost_ret (v:=.tuple #[.agg #[.int .i64 0,.int .i64 0,.int .i64 0,.int .i64 0,.slice none 0 0],.int .i64 2]) (by simp[results,results224,go_sem,q0,q1,q2,q3,q4]) rfl ⟨.inl ⟨uP.out,rfl⟩,mF⟩
   ·have uP:=hdn (oO (wV (.inr rfl) (show body b yV=none by rw[HT.out,if_neg (by simp[hz])])))
    have hzi:((bad:Int)==0)=false:=by simp;omega
    have hzn:((bad:Int) != 0)=true:=by simp;omega
    clear hN hu HT nC
    repeat' go_step
    refine C.mono ?_;rintro e w2 ⟨A2,k2,c2,rfl,ho2,hu2⟩
    have hR2:=hR.upd hu2
    have U2:=(U.trans hu2).gives (b':=[]) (by simp)
    obtain⟨⟨q0,q1,q2,q3,q4⟩,f0,f1,f2,f3,f4⟩:=hR2.c5
    have EK:=hR2.lt
    clear C hR hG U hu2 hab hBr
    refine wk ?_
    have N:=dM [.int .i64 0,.int .i64 0,.int .i64 0,.int .i64 0,.slice none 0 0] hR2 rfl U2 (.inr (by omega))
    simp only[setRow]at N
    generalize World.setCell _ ⟨w.heap.size,4,none⟩ _=W5 at N ⊢
    obtain⟨hN,mF⟩:=N
    clear q0 q1 q2 q3 q4
    obtain⟨⟨q0,q1,q2,q3,q4⟩,-⟩:=hN.c5
    exact bodyPost_ret (v:=.tuple #[.agg #[.int .i64 0,.int .i64 0,.int .i64 0,.int .i64 0,.slice none 0 0],.int .i64 2]) (by simp[results,results224,go_sem,q0,q1,q2,q3,q4]) rfl ⟨.inl ⟨uP.out,rfl⟩,mF⟩
structure Nj(w:World)(A:Option Addr)(k c:Nat)(l:List Sl):Prop where
 len:k=l.length
 own:aA.Own 28 1 w A k c (l.map Sl.val)
 each:∀x∈l,aD w x.A x.k x.b∧x.k≤x.c∧x.c≤maxLen
theorem Nj.au{w w':World}{A:Option Addr}{k c:Nat}{l:List Sl}{b:List Nat}(h:Nj w A k c l)(hu:aa [] b w w'):Nj w' A k c l:=
 ⟨h.len,h.own.upd hu,fun x hx=>⟨(h.each x hx).1.upd hu,(h.each x hx).2⟩⟩
theorem Nj.at_{w:World}{A:Option Addr}{k c:Nat}{l:List Sl}(h:Nj w A k c l){i:Nat}(hi:i<l.length):∃ad,A=some ad∧w.cell? (ad.add i)=some (.slice l[i].A l[i].k l[i].c):=by
 obtain⟨ad,u,e,hu,hc⟩:=h.own.rd.at_ (k:=i) (by rw[h.len];exact hi)
 rw[List.getElem?_map,List.getElem?_eq_getElem hi,Option.map_some,Option.some.injEq]at hu
 subst hu
 exact⟨ad,e,hc⟩
theorem Vp{w w':World}{A:Option Addr}{n:Nat}{l:List UInt8}{b:List Nat}(h:aD w' A n l)(hu:aa [] b w w')(hlt:0<n→∀k∈ah A,k<w.heap.size):aD w A n l:=
 ⟨h.1,fun hn=>by
  obtain⟨ad,e,hc⟩:=h.2 hn
  refine⟨ad,e,fun j u hj=>?_⟩
  have hb:(ad.add j).block<w.heap.size:=by rw[gq];exact hlt hn _ (by rw[e];simp[ah])
  rw[←hc j u hj]
  exact(World.cell?_of_block (w:=w) (hu.block _ hb (by simp))).symm⟩
theorem Yn(w:World)(A:Option Addr)(n c:Nat)(b:List UInt8)(hr:aD w A n b)(hc:n≤c)(hcm:c≤maxLen)(hb:b.length≤1099511627776) :
  Calls prog 223 #[.slice A n c] w fun e w'=>∃A' k' c' l,e=.returned (.tuple #[.slice A' k' c',.int .i64 (((scan b).2:Nat):Int)])∧Nj w' A' k' c' l∧l.map Sl.b=(scan b).1∧aa [] (ah A') w w':=by
 obtain rfl:=hr.len
 go_enter func223,ntmps223
 refine wk ?_
 go_loopw [4,5] (fun v4 v5 wr=>∃(a:Nat)(A1:Option Addr)(k1 c1:Nat)(l:List Sl),v5=.int .i64 (a:Int)∧v4=.slice A1 k1 c1∧a≤b.length∧l.length*8≤a∧(k1=l.length∧aA.Own 28 1 wr A1 k1 c1 (l.map Sl.val)∧∀x∈l,aD w x.A x.k x.b∧x.k≤x.c∧x.c≤maxLen)∧(scan b=(l.map Sl.b++(scan (b.drop a)).1,a+(scan (b.drop a)).2))∧aa [] (ah A1) w wr)
  (fun _ v5 _=>b.length-(intOf v5).toNat)
 case atStart=>exact⟨0,none,0,0,[],rfl,rfl,by omega,by simp,⟨rfl,Own.nil _ _ _,by simp⟩,by simp,aa.refl _ _⟩
 case round=>
  obtain⟨a,A1,k1,c1,l,rfl,rfl,ha,PR,⟨rfl,ho,hE⟩,hsc,hu⟩:=hrel
  have HS:=hdn hsc;clear hsc
  have hrr:=(hr.upd hu).rest hc a ha
  obtain⟨Aa,Xg⟩:=ex1 ((if c=a then A else A.map (fun x=>x.add a)))
  rw[Xg]at hrr
  have hlc:(b.drop a).length=b.length-a:=length_drop
  have C:=Uw wr Aa (b.length-a) (c-a) _ hrr (by omega) (by omega) (by rw[hlc];omega)
  have hx1:(a:Int)≤(b.length:Int):=by omega
  have hx2:(0:Int)≤(a:Int):=by omega
  have hx3:(b.length:Int)≤(c:Int):=by omega
  obtain⟨m,bad,hf⟩:∃m bad,fst (b.drop a)=(m,bad):=⟨_,_,rfl⟩
  by_cases h0:bad=0
  ·subst h0
   have Ck:=wm hf
   rw[hlc]at Ck
   have h1:=Ck.1
   have h2:=Ck.2.1
   have HY:=hdn (xh hf)
   have hx5:a+(8+m)≤b.length:=by omega
   rw[if_neg (by omega)]at Xg
   subst Xg
   clear Ck
   repeat' go_step
   refine C.mono ?_;rintro e w1 ⟨hT,kk,rfl⟩
   obtain⟨B1,m1,d1,B2,m2,d2,rfl,t1,t2,t3,t4,t5,t6,t7⟩:=hT
   rw[hf]
   rw[hf,if_pos rfl]at t1 t2
   have hm2:m2=b.length-(a+(8+m)):=by
    have:=t2.len
    rw[length_drop,hlc]at this
    omega
   have hd2:(b.drop a).drop (8+m)=b.drop (a+(8+m)):=drop_drop
   have ho1:=ho.upd ((aa.refl [] wr).drewN kk) (by simp)
   have U1:=hu.drewN kk
   have hlen:l.length≤1099511627776:=by omega
   have t1w:=Vp t1 hu (fun hn k hk=>hr.lt (by have:=t1.len;omega) k (by
    have:=t7 k (mem_append_left _ hk)
    cases A with
    |none=>simp[ah]at this
    |some ad=>simpa[ah,gq]using this))
   clear C hrr ho hu t2 t5 t6 t7 hf t1
   generalize hW1:wr.drewN kk=W1 at ho1 U1 ⊢
   rw[hd2]at HY
   generalize ((b.drop a).drop 8).take m=x at *
   have hw9:IntKind.i64.wrap ((b.length:Int)-(m2:Int))=((a+(8+m):Nat):Int):=by rw[IntKind.wrap_i64];omega
   clear hd2 hW1 hm2
   repeat' (fail_if_success with_reducible refine Ag rfl ?_);first|go_step|simp only[];go_at_K
   refine bQ rfl _ _ 72 rfl 28 underlying72 Hy rfl (by decide) ho1 rfl _ rfl (news:=[.slice B1 m1 d1]) rfl rfl rfl (by unfold maxLen;omega) (by omega) ?_
   intro A3 c3 w3 ho3 hu3
   have U3:=U1.trans hu3
   have hO3:l.length+1=(l++[(⟨B1,m1,d1,x⟩:Sl)]).length∧aA.Own 28 1 w3 A3 (l.length+1) c3 ((l++[(⟨B1,m1,d1,x⟩:Sl)]).map Sl.val)∧∀y∈l++[(⟨B1,m1,d1,x⟩:Sl)],aD w y.A y.k y.b∧y.k≤y.c∧y.c≤maxLen:=⟨by simp,by rw[map_append];exact ho3,fun y hy=>by
    rcases mem_append.1 hy with hy|hy
    ·exact hE y hy
    ·obtain rfl:=mem_singleton.1 hy
     exact⟨t1w,t3,t4⟩⟩
   clear t1w ho1 ho3 U1 hu3
   have HO3:=hdn hO3
   have HE:=hdn hE
   clear hO3 hE
   refine wk ?_
   have hHS:=HS.out
   rw[HY.out]at hHS
   refine⟨⟨a+(8+m),A3,_,c3,_,rfl,rfl,hx5,by simp;omega,HO3.out,?_,U3⟩,by simp[intOf];omega⟩
   rw[hHS]
   simp[Nat.add_assoc]
  ·subst Xg
   have HY:=hdn (wu (b:=b.drop a) (by rw[hf];exact h0))
   repeat' go_step
   refine C.mono ?_;rintro e w1 ⟨hT,kk,rfl⟩
   obtain⟨B1,m1,d1,B2,m2,d2,rfl,-⟩:=hT
   rw[hf]
   have hne:((bad:Int) != 0)=true:=by
    unfold bne
    rw[beq_false_of_ne (by omega)]
    rfl
   have ho1:=ho.upd ((aa.refl [] wr).drewN kk) (by simp)
   have U1:=hu.drewN kk
   clear C hrr ho hu hf
   refine wk ?_
   go_ret2
   have hs:=HS.out
   rw[HY.out]at hs
   simp only[append_nil,Nat.add_zero]at hs
   exact⟨A1,_,c1,l,by rw[hs];rfl,⟨rfl,ho1,fun x hx=>⟨(hE x hx).1.upd U1,(hE x hx).2⟩⟩,by rw[hs],U1⟩
theorem tu.aaU{w:World}{e:TypeId}{A:Option Addr}{n c:Nat}{l:List Rv}(h:aA.Own e 5 w A n c (l.flatMap Rv.cells))(hb:∀x∈l,aD w x.A x.n x.b):tu w A n l:=
 ⟨⟨by have:=h.len;rw[Bf Rv.iG]at this;omega,h.rd⟩,hb⟩
theorem Ro(w:World)(A:Option Addr)(n c:Nat)(b:List UInt8)(hr:aD w A n b)(hc:n≤c)(hcm:c≤maxLen)(hb:b.length≤1000000000) :
  Calls prog 151 #[.slice A n c] w fun e w'=>∃A' k' c' xs,e=.returned (.tuple #[.slice A' k' c',.int .i64 (((bU b).2:Nat):Int)])∧cK xs=(bU b).1∧tu w' A' k' xs∧aa [] [] w w'∧(∀x∈xs,∀k∈ah x.A,w.heap.size≤k)∧∀k∈ah A',w.heap.size≤k:=by
 have CS:=Yn w A n c b hr hc hcm (by omega)
 go_enter func151,ntmps151
 repeat' go_step
 refine CS.mono ?_;rintro e w1 ⟨A1,k1,c1,L,rfl,hL,FD,hu1⟩
 have U1:aa [] [] w w1:=hu1.gives
 have hle:∀x∈L,x.b.length+8≤b.length:=fun x hx=>MG (b:=b) (x:=x.b) (by rw[←FD];exact mem_map.2 ⟨x,hx,rfl⟩)
 have Rp:L.length*8≤b.length:=by
  have h1:=(wD b).1
  have h2:=congrArg length (wD b).2.1
  rw[←FD,length_take]at h2
  have h3:∀l:List (List UInt8),l.length*8≤(l.flatMap put).length:=by
   intro l
   induction l with
   |nil=>simp
   |cons x r ih=>rw[flatMap_cons,length_append,fZ,length_cons];omega
  have h4:=h3 (L.map Sl.b)
  rw[length_map]at h4
  omega
 have hk1:=hL.len
 subst hk1
 clear CS hu1 hr
 repeat' first|go_step|simp only[];go_at_K
 go_loopw [6,7,8] (fun v6 v7 v8 wr=>∃(i:Nat)(A2:Option Addr)(c2:Nat)(pre:List Rv)(z:Nat),i≤L.length∧v8=.int .i64 (i:Int)∧v6=.slice A2 pre.length c2∧v7=.int .i64 (z:Int)∧
   aA.Own 246 5 wr A2 pre.length c2 (pre.flatMap Rv.cells)∧(∀x∈pre,aT 5 wr x.A x.n x.c x.b)∧(∀x∈pre,∀k∈ah x.A,w.heap.size≤k)∧pre.length=i∧
   ((bU b).1=cK pre++(cO ((L.map Sl.b).drop i)).1∧(bU b).2=z+(cO ((L.map Sl.b).drop i)).2)∧z≤(bU b).2∧aa [] (ah A2) w1 wr)
  (fun _ _ v8 _=>L.length-(intOf v8).toNat)
 case atStart=>exact⟨0,none,0,[],0,by omega,rfl,rfl,rfl,aA.Own.nil _ _ _,by simp,by simp,rfl,by simp[cK,bU,FD],by omega,aa.refl _ _⟩
 case round=>
  obtain⟨i,A2,c2,pre,z,hi,rfl,rfl,rfl,ho,hE,hFr,hpi,hX,hz2,U⟩:=hrel
  have Ab:∀k∈ah A2,w.heap.size≤k:=fun k hk=>by
   rcases U.fresh k hk with hh|hh
   ·cases hh
   ·have:=U1.size;omega
  have OG:w.heap.size≤wr.heap.size:=by have h1:=U.size;have h2:=U1.size;omega
  have Rq:=hL.au U
  have hrb:=(oH b).1
  by_cases hlt:i<L.length
  ·have hil:(i:Int)<(L.length:Int):=by omega
   have hw1:=aA.wr ((i:Int)+1)
   obtain⟨ad,hA,q0⟩:=Rq.at_ hlt
   subst hA
   obtain⟨jw,Gc,hxm⟩:=Rq.each _ (getElem_mem hlt)
   have hxl:=hle _ (getElem_mem hlt)
   have hi2:i<(L.map Sl.b).length:=by simpa using hlt
   have hgb:(L.map Sl.b)[i]=L[i].b:=getElem_map ..
   have hN:lW L[i].b=none→cO ((L.map Sl.b).drop i)=([],0):=fun h=>uR hi2 (by rw[hgb];exact h)
   have hS:∀r,lW L[i].b=some r→cO ((L.map Sl.b).drop i)=(r::(cO ((L.map Sl.b).drop (i+1))).1,8+L[i].b.length+(cO ((L.map Sl.b).drop (i+1))).2):=fun r h=>by
    have:=uS hi2 (r:=r) (by rw[hgb];exact h)
    rwa [hgb]at this
   have hkx:=jw.len
   clear hi2 hgb
   generalize L[i]=x at *
   have C:=LC wr x.A x.k x.c x.b jw Gc hxm (by omega)
   generalize cO ((L.map Sl.b).drop i)=R at *
   obtain⟨R2,hR2⟩:=ex1 (cO ((L.map Sl.b).drop (i+1)))
   rw[hR2]at hS
   have HR2:=hdn hR2
   clear hR2
   have HX:=hdn hX
   have HE:=hdn hE
   have HPI:=hdn hpi
   have HK:=hdn hkx
   clear hX hE hpi hkx
   repeat' go_step
   refine C.mono ?_;rintro e w2 ⟨hD,hu2⟩
   have ho2:=ho.upd hu2
   have U2:=U.trans (hu2.up _)
   have hE2:∀x∈pre,aT 5 w2 x.A x.n x.c x.b:=fun x hx=>(HE.out x hx).upd hu2
   have q2:=hu2.cell q0 (by simp)
   clear C ho U hu2 q0 HE
   rcases hD with⟨hd,rfl⟩|⟨y,hd,hoy,hyf,rfl⟩
   ·have hRe:=hN hd
    clear hN hS hd
    have hX2:=HX.out
    rw[hRe]at hX2
    simp only[append_nil,Nat.add_zero]at hX2
    have Gd:=hdn hX2
    have HE2:=hdn hE2
    clear hX2 hE2 hRe HX Rq jw
    refine wk ?_
    go_ret2
    have hv:=tu.aaU (ho2.alloc (.cells #[.int .i64 0,.int .i64 0,.int .i64 0,.int .i64 0,.slice none 0 0] 246)) (fun x hx=>((HE2.out x hx).alloc _).own.rd)
    exact⟨A2,_,c2,pre,by rw[Gd.out.2];rfl,Gd.out.1.symm,hv,(U1.trans (U2.gives)).alloc _,hFr,Ab⟩
   ·have hRe:=hS _ hd
    have hyb:y.rc.bytes=x.b:=(Em hd).2
    clear hN hS hd
    have hX2:=HX.out
    rw[hRe]at hX2
    have aja:z+(8+x.b.length)≤(bU b).2:=by have:=hX2.2;simp only at this;omega
    have hw2:=aA.wr ((z:Int)+8)
    have hw3:IntKind.i64.wrap ((z:Int)+8+(x.k:Int))=((z+(8+x.b.length):Nat):Int):=by have:=HK.out;rw[IntKind.wrap_i64];omega
    have Gd:=hdn hX2
    have HR:=hdn hrb
    have UB:aa [] [] w2 (w2.alloc (.cells #[.int .i64 y.k,.int .i64 y.s,.int .i64 y.r,.int .i64 y.t,.slice y.A y.n y.c] 246)):=(aa.refl _ _).alloc _
    have hB:=ak.new w2 246 #[.int .i64 y.k,.int .i64 y.s,.int .i64 y.r,.int .i64 y.t,.slice y.A y.n y.c]
    obtain⟨W3,ME⟩:∃V,w2.alloc (.cells #[.int .i64 y.k,.int .i64 y.s,.int .i64 y.r,.int .i64 y.t,.slice y.A y.n y.c] 246)=V:=⟨_,rfl⟩
    rw[ME]at UB hB
    have ho3:=ho2.upd UB
    have Vq:=hoy.upd UB
    have hE3:∀x∈pre,aT 5 W3 x.A x.n x.c x.b:=fun x hx=>(hE2 x hx).upd UB
    have q3:=UB.cell q2 (by simp)
    have U3:=U2.trans (UB.up _)
    obtain⟨⟨p0,p1,p2,p3,p4⟩,-⟩:=hB.c5
    have hLd:=(hL.au U3).own.wW ho3 (by decide)
    have hpl:pre.length≤125000000:=by have:=HPI.out;omega
    clear hX2 hRe HX Rq jw hrb UB hB ho2 hoy hE2 q2 U2
    repeat' (fail_if_success with_reducible refine Ag rfl ?_);first|go_step|simp only[];go_at_K
    refine bQ rfl _ _ 241 rfl 246 underlying241 Uu rfl (by decide) ho3 rfl _ rfl (news:=[.int .i64 y.k,.int .i64 y.s,.int .i64 y.r,.int .i64 y.t,.slice y.A y.n y.c]) rfl rfl rfl (by unfold maxLen;omega) (by omega) ?_
    intro A5 c5 w5 dB bD
    have U5:=U3.trans bD
    have q5:=bD.cell q3 (by rw[gq];exact hLd ad.block (by simp[ah]))
    have hE5:∀v∈pre++[y],aT 5 w5 v.A v.n v.c v.b:=fun v hv=>by
     rcases mem_append.1 hv with hv|hv
     ·exact(hE3 v hv).upd bD ((hE3 v hv).own.wW ho3 (by decide))
     ·obtain rfl:=mem_singleton.1 hv
      exact Vq.upd bD (Vq.own.wW ho3 (by decide))
    rw[show pre.flatMap Rv.cells++[.int .i64 y.k,.int .i64 y.s,.int .i64 y.r,.int .i64 y.t,.slice y.A y.n y.c]=(pre++[y]).flatMap Rv.cells by simp[Rv.cells]]at dB
    have HE5:=hdn hE5
    have ae9:∀v∈pre++[y],∀k∈ah v.A,w.heap.size≤k:=fun v hv k hk=>by
     rcases mem_append.1 hv with hv|hv
     ·exact hFr v hv k hk
     ·obtain rfl:=mem_singleton.1 hv
      have:=hyf k hk;omega
    have HS:=hdn aja
    clear hE3 hE5 ho3 Vq bD q3 U3 p0 p1 p2 p3 p4 ME aja
    refine wk ?_
    refine⟨⟨i+1,A5,c5,pre++[y],z+(8+x.b.length),by omega,by simp,by simp,rfl,by simpa using dB,HE5.out,ae9,by simp;exact HPI.out,⟨?_,?_⟩,HS.out,U5⟩,by simp[intOf];omega⟩
    ·rw[Gd.out.1,HR2.out];simp[cK]
    ·rw[Gd.out.2,HR2.out];simp only;omega
  ·obtain rfl:i=L.length:=by omega
   have hil:¬ ((L.length:Int)<(L.length:Int)):=by omega
   have hX2:=hX
   rw[drop_eq_nil_of_le (by simp)]at hX2
   simp only[cO,append_nil,Nat.add_zero]at hX2
   have Gd:=hdn hX2
   have HE2:=hdn hE
   clear hX hX2 hE Rq hpi
   refine wk ?_
   go_ret2
   exact⟨A2,_,c2,pre,by rw[Gd.out.2];rfl,Gd.out.1.symm,tu.aaU ho (fun x hx=>(HE2.out x hx).own.rd),U1.trans (U.gives),hFr,Ab⟩
