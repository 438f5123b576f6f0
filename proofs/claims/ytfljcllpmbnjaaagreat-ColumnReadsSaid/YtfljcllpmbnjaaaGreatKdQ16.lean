/- Contracts and plain laws that the last text rests on. Conditions: each theorem states its own. -/
import Derived.Test.YtfljcllpmbnjaaaGreatKdQ15
import Derived.Test.YtfljcllpmbnjaaaGreatKdQ6
import Derived.Test.YtfljcllpmbnjaaaGreatKdQ1
import Derived.Test.YtfljcllpmbnjaaaGreatKdQ12
set_option maxRecDepth 100000
set_option maxHeartbeats 8000000
set_option linter.unusedVariables false
namespace Go.Proofs.YtfljcllpmbnjaaaGreat
open Go.RowKit
def Qm (ls:List (List Bool)) (m:List Bool):Prop:=∃x∈ls,x≠[]/\m<+:x
theorem JR (x m:List Bool) (h:m.length<=x.length):(((txt x).extract 0 m.length).toList==(txt m).toList)=decide (m<+:x):=by
 have e1:((txt x).extract 0 m.length)=txt (x.take m.length):=by
  apply ByteArray.ext
  simp[txt,ByteArray.data_extract,List.map_take]
 rw[e1,Bool.eq_iff_iff,beq_iff_eq,decide_eq_true_iff];constructor
 ·intro h2
  have h3:x.take m.length=m:=EN (by
   rw[ByteArray.toList_eq,ByteArray.toList_eq]at h2;exact ByteArray.ext (Array.toList_inj.1 h2))
  exact h3▸List.take_prefix _ _
 ·intro h2
  rw[←List.prefix_iff_eq_take.1 h2]
def NS (ls:List (List Bool)) (m:List Bool) (k:Nat):Prop:=∀x∈ls.take k,¬(x≠[]/\m<+:x)
def NR (ls:List (List Bool)) (m:List Bool) (k:Nat):Prop:=m∈ls.take k->m=[]
def XB (ls:List (List Bool)) (m:List Bool) (W:World) (e:Ending) (w':World):Prop:=(∃b:Bool,e=.returned (.bool b)/\(b=true↔Qm ls m))/\W=w'
theorem CX (D:Nat->Prop) (A:Option Addr) (n c:Nat) (ls:List (List Bool)) (m:List Bool) (W:World) (hr:Rd W D 1 A n (sl ls)) (hl:ls.length=n) (hn:n<=1000):
 Calls Tryz.prog 176 #[.slice A n c,.string (txt m)] W (XB ls m W):=by
 have Hl:=ah hl;clear hl;go_enter Tryz.func176,Tryz.ntmps176;go_wp2_with fail;go_loop [9] (fun i=>∃k:Nat,k<=n/\i=.int .i64 k/\NS ls m k) (fun i=>n-(intOf i).toNat)
 case atStart=>exact ⟨0,Nat.zero_le _,rfl,by intro x;simp⟩
 case round=>
  obtain ⟨k,hk,rfl,HN⟩:=hrel;by_cases hlt:k<n
  ·have hkl:k<ls.length:=by rw[Hl.out];exact hlt
   obtain ⟨ad,u,rfl,kN,hu,hc⟩:=hr.at_ hlt;rw[Kr hkl]at hu;injection hu with hu;subst hu;have hsz:=FQ ls[k];have hsm:=FQ m
   have hem:(txt ls[k]).toList=[]↔ls[k]=[]:=by
    rw[ByteArray.toList_eq,←List.length_eq_zero_iff,Array.length_toList];show (txt ls[k]).size=0↔_
    rw[hsz,List.length_eq_zero_iff]
   have hpf:=fun h:m.length<=ls[k].length=>JR ls[k] m h;have HY:Hid (ls[k]∈ls):=ah (List.getElem_mem hkl)
   have HS:Hid (¬(ls[k]≠[]/\m<+:ls[k])->NS ls m (k+1)):=ah fun h x hx=>by
    rw[List.take_succ_eq_append_getElem hkl,List.mem_append,List.mem_singleton]at hx;rcases hx with hx|rfl
    ·exact HN x hx
    ·exact h
   clear HN;generalize ls[k]=x at *;by_cases h2:x=[]
   ·have qe:=hem.2 h2
    have H2:=ah h2;clear h2 hem hpf;generalize txt x=s at *;have qe2:s.toList.isEmpty=true:=by rw[qe];rfl
    go_wp2_with fail
    all_goals
     go_round
     case rel=>exact ⟨k+1,by omega,by go_num,HS.out fun h=>h.1 H2.out⟩
     case measure=>simp[intOf];omega
   ·have qe:=fun h=>h2 (hem.1 h)
    have qe2:(txt x).toList.isEmpty=false:=by
     rw[←Bool.not_eq_true,List.isEmpty_iff];exact qe
    by_cases h1:m.length<=x.length
    ·have hp1:=hpf h1
     by_cases h3:m<+:x
     ·rw[decide_eq_true h3]at hp1
      clear hem hpf;go_wp2_with fail;go_ret;exact ⟨⟨true,rfl,fun _=>⟨x,HY.out,h2,h3⟩,fun _=>rfl⟩,rfl⟩
     ·rw[decide_eq_false h3]at hp1
      clear hem hpf;go_wp2_with fail;go_round
      case rel=>exact ⟨k+1,by omega,by go_num,HS.out fun h=>h3 h.2⟩
      case measure=>simp[intOf];omega
    ·clear hem hpf
     go_wp2_with fail;go_round
     case rel=>exact ⟨k+1,by omega,by go_num,HS.out fun h=>h1 h.2.length_le⟩
     case measure=>simp[intOf];omega
  ·obtain rfl:k=n:=by omega
   go_wp2_with fail;go_ret;refine ⟨⟨false,rfl,?_⟩,rfl⟩;unfold NS at HN;rw[List.take_of_length_le (by rw[Hl.out];exact Nat.le_refl _)]at HN;constructor
   ·intro h;cases h
   ·rintro ⟨x,hx,h⟩
    exact absurd h (HN x hx)
def TY (ls:List (List Bool)) (m:List Bool) (W:World) (e:Ending) (w':World):Prop:=
 ((∃s:Nat,e=.returned (.int .i64 (s:Int))/\s<ls.length/\ls[s]?=some m/\m≠[])∨(e=.returned (.int .i64 (-1))/\(m∈ls->m=[])))/\W=w'
theorem KP (D:Nat->Prop) (A:Option Addr) (n c:Nat) (ls:List (List Bool)) (m:List Bool) (W:World) (hr:Rd W D 1 A n (sl ls)) (hl:ls.length=n) (hn:n<=1000):
 Calls Tryz.prog 177 #[.slice A n c,.string (txt m)] W (TY ls m W):=by
 have Hl:=ah hl;clear hl
 have hem:(txt m).toList=[]↔m=[]:=by
  rw[ByteArray.toList_eq,←List.length_eq_zero_iff,Array.length_toList];show (txt m).size=0↔_
  rw[FQ,List.length_eq_zero_iff]
 have HE:=ah hem;clear hem;go_enter Tryz.func177,Tryz.ntmps177;go_wp2_with fail;go_loop [9] (fun i=>∃k:Nat,k<=n/\i=.int .i64 k/\NR ls m k) (fun i=>n-(intOf i).toNat)
 case atStart=>exact ⟨0,Nat.zero_le _,rfl,by intro h;simp at h⟩
 case round=>
  obtain ⟨k,hk,rfl,HN⟩:=hrel;by_cases hlt:k<n
  ·have hkl:k<ls.length:=by rw[Hl.out];exact hlt
   obtain ⟨ad,u,rfl,kN,hu,hc⟩:=hr.at_ hlt;rw[Kr hkl]at hu;injection hu with hu;subst hu
   have heq:((txt ls[k]).toList==(txt m).toList)=decide (ls[k]=m):=by
    rw[Bool.eq_iff_iff,beq_iff_eq,decide_eq_true_iff];constructor
    ·intro h2
     exact EN (by
      rw[ByteArray.toList_eq,ByteArray.toList_eq]at h2;exact ByteArray.ext (Array.toList_inj.1 h2))
    ·intro h;rw[h]
   have HY:Hid (ls[k]=m->ls[k]?=some m):=ah fun h=>by rw[List.getElem?_eq_getElem hkl,h]
   have HS:Hid ((ls[k]=m->m=[])->NR ls m (k+1)):=ah fun h hx=>by
    rw[List.take_succ_eq_append_getElem hkl,List.mem_append,List.mem_singleton]at hx;rcases hx with hx|hx
    ·exact HN hx
    ·exact h hx.symm
   clear HN;generalize ls[k]=x at *;by_cases h2:m=[]
   ·have qe:=HE.out.2 h2
    have H2:=ah h2;clear h2;generalize txt m=s at *;have qe2:s.toList.isEmpty=true:=by rw[qe];rfl
    by_cases h3:x=m
    ·rw[decide_eq_true h3]at heq
     clear h3;go_wp2_with fail
     all_goals
      go_round
      case rel=>exact ⟨k+1,by omega,by go_num,HS.out fun _=>H2.out⟩
      case measure=>simp[intOf];omega
    ·rw[decide_eq_false h3]at heq
     go_wp2_with fail
     all_goals
      go_round
      case rel=>exact ⟨k+1,by omega,by go_num,HS.out fun _=>H2.out⟩
      case measure=>simp[intOf];omega
   ·have qe:=fun h=>h2 (HE.out.1 h)
    have qe2:(txt m).toList.isEmpty=false:=by
     rw[←Bool.not_eq_true,List.isEmpty_iff];exact qe
    by_cases h3:x=m
    ·rw[decide_eq_true h3]at heq
     go_wp2_with fail;go_ret;exact ⟨.inl ⟨k,rfl,hkl,HY.out h3,h2⟩,rfl⟩
    ·rw[decide_eq_false h3]at heq
     go_wp2_with fail;go_round
     case rel=>exact ⟨k+1,by omega,by go_num,HS.out fun h=>absurd h h3⟩
     case measure=>simp[intOf];omega
  ·obtain rfl:k=n:=by omega
   go_wp2_with fail;go_ret;refine ⟨.inr ⟨rfl,fun h=>HN ?_⟩,rfl⟩;rw[List.take_of_length_le (by rw[Hl.out];exact Nat.le_refl _)];exact h
end Go.Proofs.YtfljcllpmbnjaaaGreat
namespace Go.Proofs.YtfljcllpmbnjaaaGreat
open Go.RowKit R2
theorem EL (l:List Bool):txt l++⟨#[49]⟩=txt (l++[true]):=by
 apply ByteArray.ext
 simp[txt,chr]
def tY (bs:List Nat) (p m:Nat):List Bool:=(List.range m).map fun i=>decide (dO bs (p+i)=1)
theorem Yw (bs:List Nat) (p m:Nat):(tY bs p m).length=m:=by simp[tY]
theorem Af (bs:List Nat) (p m:Nat):tY bs p (m+1)=tY bs p m++[decide (dO bs (p+m)=1)]:=by simp[tY,List.range_succ]
theorem z5t (bs:List Nat) (p:Nat) {k m:Nat} (h:k<=m):tY bs p k<+:tY bs p m:=by
 obtain ⟨d,rfl⟩:∃d,m=k+d:=⟨m-k,by omega⟩;unfold tY;rw[List.range_add,List.map_append];exact List.prefix_append _ _
def QY (ls:List (List Bool)):Prop:=∀(i j:Nat) (x y:List Bool),ls[i]?=some x->ls[j]?=some y->x≠[]->x<+:y->i=j
def wE (ls:List (List Bool)) (bs:List Nat) (N p s:Nat) (x:List Bool):Prop:=QY ls/\ls[s]?=some x/\x≠[]/\x.length<=15/\p+x.length<=N/\x=tY bs p x.length
def TG (ls:List (List Bool)) (bs:List Nat) (g h N p:Nat) (W:World) (e:Ending) (w':World):Prop:=
 ∃(s:Nat) (er:Int) (q:Nat),e=.returned (.tuple #[.int .i64 (s:Int),.int .i64 er])/\fE w' g h bs N q/\Ch (· =g) W w'/\p<=q/\(er=0->s<ls.length/\p<q)/\(∀s0 x,wE ls bs N p s0 x->s=s0/\er=0/\q=p+x.length)
def Q_ (ls:List (List Bool)) (bs:List Nat) (N p k:Nat):Prop:=∀s0 x,wE ls bs N p s0 x->k<=x.length
theorem Zn (D:Nat->Prop) (A:Option Addr) (n c:Nat) (ls:List (List Bool)) (bs:List Nat) (g h N p:Nat) (W:World) (hr:Rd W D 1 A n (sl ls)) (hD:∀k,D k->k≠g) (hl:ls.length=n) (hn:n<=1000) (r:fE W g h bs N p):
 Calls Tryz.prog 163 #[.slice A n c,.pointer (some ⟨g,0,none⟩)] W (TG ls bs g h N p W):=by
 have Hl:=ah hl;have hle:=r.le;have hgh:¬h=g:=by obtain ⟨_,_,_,_,x,_⟩:=r;exact x
 have HR:=ah (fun (w':World) (c':Ch (· =g) W w')=>hr.ch (by omega) c' (fun k _ hk=>hD k hk));clear hl hr hD;go_enter Tryz.func163,Tryz.ntmps163;go_wp2_with fail;go_loopw [6] (fun w6 wr=>∃k:Nat,k<=16/\w6=.string (txt (tY bs p k))/\fE wr g h bs N (p+k)/\Ch (· =g) W wr/\Q_ ls bs N p k) (fun w6 _=>17-QC w6)
 case atStart=>exact ⟨0,by omega,by simp[tY,EM],r,Ch.refl _ _,fun s0 x _=>Nat.zero_le _⟩
 case round=>
  clear r;obtain ⟨w1,rfl⟩:∃w1:World,w1=wr:=⟨_,rfl⟩;obtain ⟨k,hk,rfl,hrr,hch,hkept⟩:=hrel;have HC:=ah hch;have HRR:=ah hrr;have HK:=ah hkept;have HB:=ah (CX D A n c ls (tY bs p k) w1 (HR.out w1 hch) Hl.out hn);have HF:=ah (KP D A n c ls (tY bs p k) w1 (HR.out w1 hch) Hl.out hn);have hsz:=FQ (tY bs p k);rw[Yw]at hsz;have hlo:QC (.string (txt (tY bs p k)))=k:=hsz;clear hch hrr hkept;go_wp2_with fail;refine HB.out.mono ?_;rintro e w2 ⟨⟨b,rfl,hb⟩,rfl⟩;cases b
  ·go_wp2_with fail
   go_ret2;refine ⟨0,4,p+k,rfl,HRR.out,HC.out,by omega,by simp,fun s0 x hx=>?_⟩;have h1:=HK.out s0 x hx;obtain ⟨f1,f2,f3,f4,f5,f6⟩:=hx;exact absurd (hb.2 ⟨x,List.mem_of_getElem? f2,f3,by rw[f6];exact z5t bs p h1⟩) (by simp)
  ·clear hb
   by_cases h15:k<=15
   ·go_wp2_with fail
    refine HF.out.mono ?_;rintro e w2 ⟨hf,rfl⟩;rcases hf with ⟨s,rfl,hs1,hs2,hs3⟩|⟨rfl,hno⟩
    ·go_wp2_with fail
     go_ret2;refine ⟨s,0,p+k,rfl,HRR.out,HC.out,by omega,fun _=>⟨hs1,?_⟩,fun s0 x hx=>?_⟩
     ·have:k≠0:=fun h=>hs3 (by rw[h];rfl)
      omega
     ·have h1:=HK.out s0 x hx
      obtain ⟨f1,f2,f3,f4,f5,f6⟩:=hx;have hss:=f1 s s0 _ x hs2 f2 hs3 (by rw[f6];exact z5t bs p h1);subst hss;rw[hs2]at f2;injection f2 with f2;refine ⟨rfl,rfl,?_⟩;have:=congrArg List.length f2;rw[Yw]at this;omega
    ·have hstep:Q_ ls bs N p (k+1):=fun s0 x hx=>by
      have h1:=HK.out s0 x hx;obtain ⟨f1,f2,f3,f4,f5,f6⟩:=hx
      have:k≠x.length:=fun h=>by
       rw[←h]at f6;rw[f6]at f2;exact f3 (f6.trans (hno (List.mem_of_getElem? f2)))
      omega
     have HS:=ah hstep;clear hno hstep;by_cases hN:p+k+1<=N
     ·have OE:=ah (Ol g h bs N (p+k) 1 w1 HRR.out (by omega) hN)
      have hbv:aS bs (p+k) 1=dO bs (p+k):=(by simp[aS]);have hbl:=Ua bs (p+k);rw[hbv]at OE;have HZ:Hid (tY bs p (k+1)=tY bs p k++[decide (dO bs (p+k)=1)]):=ah (Af bs p k);clear hbv;generalize dO bs (p+k)=b at *;have hz0:=Ui (tY bs p k);have hz1:=EL (tY bs p k);obtain rfl|rfl:b=0∨b=1:=by omega
      ·go_wp2_with fail
       refine OE.out.mono ?_;rintro e w3 ⟨rfl,r3,c3⟩;have R3:=ah r3;have C3:=ah (HC.out.trans c3 fun _ _ h=>h);clear r3 c3;go_wp2_with fail;go_roundw
       case rel=>exact ⟨k+1,by omega,by rw[HZ.out];simp[],by rw[←Nat.add_assoc];exact R3.out,C3.out,HS.out⟩
       case measure=>simp only[QC,FQ,List.length_append,Yw,List.length_cons,List.length_nil];omega
      ·go_wp2_with fail
       refine OE.out.mono ?_;rintro e w3 ⟨rfl,r3,c3⟩;have R3:=ah r3;have C3:=ah (HC.out.trans c3 fun _ _ h=>h);clear r3 c3;go_wp2_with fail;go_roundw
       case rel=>exact ⟨k+1,by omega,by rw[HZ.out];simp[],by rw[←Nat.add_assoc];exact R3.out,C3.out,HS.out⟩
       case measure=>simp only[QC,FQ,List.length_append,Yw,List.length_cons,List.length_nil];omega
     ·have OE:=ah (Oo g h bs N (p+k) 1 w1 HRR.out (by omega) (by omega) (by omega))
      go_wp2_with fail;refine OE.out.mono ?_;rintro e w3 ⟨rfl,d3⟩;go_wp2_with fail;go_ret2;refine ⟨0,3,p+k,rfl,HRR.out.nx d3.nx,HC.out.tr d3.nx,by omega,by simp,fun s0 x hx=>?_⟩;have h1:=HS.out s0 x hx;obtain ⟨f1,f2,f3,f4,f5,f6⟩:=hx;omega
   ·go_wp2_with fail
    go_ret2;refine ⟨0,4,p+k,rfl,HRR.out,HC.out,by omega,by simp,fun s0 x hx=>?_⟩;have h1:=HK.out s0 x hx;obtain ⟨f1,f2,f3,f4,f5,f6⟩:=hx;omega
end Go.Proofs.YtfljcllpmbnjaaaGreat
namespace Go.Proofs.YtfljcllpmbnjaaaGreat
def jh (s:Nat):Int:=if 144<=s/\s<=255 then 9 else if 256<=s/\s<=279 then 7 else 8
def qK:List Int:=(List.range 288).map jh
def nZ:List Int:=(List.range 32).map fun _=>5
theorem nS:qK.length=288:=by simp[qK]
theorem nV:nZ.length=32:=by simp[nZ]
theorem nT:bH qK=0:=by decide+kernel
theorem nX:bH nZ=0:=by decide+kernel
theorem ML:∀s,s<288->gJ qK s=aK s:=by decide+kernel
theorem MZ:∀s,s<32->gJ nZ s=ak s 5:=by decide+kernel
theorem vX {s:Nat} (h:s<288):(strs qK)[s]?=some (aK s):=by
 unfold strs;rw[nS];simp[h,ML s h]
theorem Qa {s:Nat} (h:s<32):(strs nZ)[s]?=some (ak s 5):=by
 unfold strs;rw[nV];simp[h,MZ s h]
/-! ### lengths -/
def gB:Nat->Nat×Nat
 |0=>(11,1)
 |j+1=>((gB j).1+2 ^ (gB j).2,if (8+j) % 4=3 then (gB j).2+1 else (gB j).2)
def fO (s:Nat):Nat×Nat:=if s<8 then (s+3,0) else if s=28 then (258,0) else gB (s-8)
def z18 (n:Nat):Nat->Nat
 |0=>0
 |s+1=>if (fO (s+1)).1<=n then s+1 else z18 n s
def f_ (n:Nat):Nat×Nat×Nat:=if n=258 then (28,0,0) else (z18 n 27,n-(fO (z18 n 27)).1,(fO (z18 n 27)).2)
theorem zh:∀j,j<20->(gB j).1<=259/\(gB j).2<=6:=by decide+kernel
theorem z4n:∀s,s<29->(fO s).1<=259/\(fO s).2<=6:=by decide+kernel
theorem Sv (n:Nat):∀s,z18 n s<=s:=by
 intro s;induction s with
 |zero=>exact Nat.le_refl _
 |succ s ih=>unfold z18;split<;>omega
theorem ng:∀m,m<256->jX (m+3)=aK (257+(f_ (m+3)).1)++numBits (f_ (m+3)).2.1 (f_ (m+3)).2.2/\(f_ (m+3)).1<=28/\(f_ (m+3)).2.1<=258/\(f_ (m+3)).2.2<=6/\(fO (z18 (m+3) 27)).1<=m+3:=by decide+kernel
/-! ### distances -/
def extra (d:Nat):Nat:=if d<4 then 0 else d / 2-1
def bD:Nat->Nat
 |0=>1
 |d+1=>bD d+2 ^ extra d
def bU (n:Nat):Nat->Nat
 |0=>0
 |s+1=>if bD (s+1)<=n then s+1 else bU n s
theorem DU (n:Nat):∀s,bU n s<=s:=by
 intro s;induction s with
 |zero=>exact Nat.le_refl _
 |succ s ih=>unfold bU;split<;>omega
theorem zJ {n:Nat} (h1:1<=n):∀s,n<bD (s+1)->bD (bU n s)<=n/\n<bD (bU n s+1):=by
 intro s;induction s with
 |zero=>intro h;exact ⟨h1,h⟩
 |succ s ih=>
  intro h;unfold bU;split
  ·next h2=>exact ⟨h2,h⟩
  ·next h2=>exact ih (by omega)
theorem z27:∀s,s<31->bD s<=32769/\extra s<=14:=by decide+kernel
theorem DT:bD 30=32769:=by decide+kernel
theorem zI:∀s,s<30->2<=s->bD s=(2+s % 2) * 2 ^ extra s+1/\2 * extra s+(2+s % 2)=(if s<4 then s else s):=by decide+kernel
theorem RV {b e x:Nat} (hlt:e<b * 2 ^ x):∀k f x0,k<=f->x0+k=x->(∀y,y<x->b * 2 ^ y<=e)->jJ b e f x0=x:=by
 intro k;induction k with
 |zero=>
  intro f x0 _ hx _;obtain rfl:x0=x:=(by omega);cases f with
  |zero=>rfl
  |succ f=>unfold jJ;rw[if_neg (by omega)]
 |succ k ih=>
  intro f x0 hf hx hy;obtain ⟨f,rfl⟩:∃g,f=g+1:=⟨f-1,by omega⟩;unfold jJ;rw[if_pos (hy x0 (by omega))];exact ih f (x0+1) (by omega) (by omega) hy
theorem yT (a v x:Nat):numBits (a * 2 ^ x+v) x=numBits v x:=by
 unfold numBits;refine List.map_congr_left fun i hi=>?_;have hi:i<x:=List.mem_range.1 hi;obtain ⟨d,rfl⟩:∃d,x=i+1+d:=⟨x-(i+1),by omega⟩;have e:a * 2 ^ (i+1+d)+v=v+2 ^ i * (2 * (a * 2 ^ d)):=by rw[Nat.pow_add,Nat.pow_succ,Nat.add_comm];congr 1;ac_rfl
 rw[e,Nat.add_mul_div_left _ _ (Nat.two_pow_pos i),Nat.add_mul_mod_self_left]
theorem yK {n:Nat} (h1:1<=n) (h2:n<=32768):pX (n-1)=ak (bU n 29) 5++numBits (n-bD (bU n 29)) (extra (bU n 29))/\bU n 29<=29/\bD (bU n 29)<=n:=by
 obtain ⟨g1,g2⟩:=zJ h1 29 (by rw[DT];omega);have g3:=DU n 29;refine ⟨?_,g3,g1⟩;generalize bU n 29=s at *;rw[show bD (s+1)=bD s+2 ^ extra s from rfl]at g2;by_cases hs:s<2
 ·have e:extra s=0:=by unfold extra;rw[if_pos (by omega)]
  have e2:bD s=s+1:=by
   rcases (show s=0∨s=1 by omega) with rfl|rfl<;>rfl
  rw[e,e2]at g2;obtain rfl:n=s+1:=by omega
  unfold pX;rw[if_pos (by omega),e];simp[numBits]
 ·obtain ⟨f1,f2⟩:=zI s (by omega) (by omega)
  have f2:2 * extra s+(2+s % 2)=s:=by rw[f2];split<;>rfl
  obtain ⟨v,hv⟩:∃v,n=bD s+v:=⟨n-bD s,by omega⟩;have hv2:v<2 ^ extra s:=by omega
  obtain ⟨q,hq⟩:∃q,2+s % 2=q:=⟨_,rfl⟩;rw[hq]at f1 f2;have hn1:n-1=q * 2 ^ extra s+v:=by omega
  have hX:fJ (n-1)=extra s:=by
   unfold fJ;refine RV (b:=4) (e:=n-1) (x:=extra s) ?_ (extra s) 20 0 (by omega) (by omega) ?_
   ·rw[hn1]
    have:q * 2 ^ extra s+2 ^ extra s<=4 * 2 ^ extra s:=by
     rw[show q * 2 ^ extra s+2 ^ extra s=(q+1) * 2 ^ extra s by rw[Nat.add_mul,Nat.one_mul]];exact Nat.mul_le_mul_right _ (by omega)
    omega
   ·intro y hy
    rw[hn1];have h3:2 * 2 ^ (y+1)<=q * 2 ^ extra s:=Nat.mul_le_mul (by omega) (Nat.pow_le_pow_right (by omega) (by omega));rw[Nat.pow_succ]at h3;omega
  have hge:¬n-1<2:=by
   rw[hn1];have h3:2 * 1<=q * 2 ^ extra s:=Nat.mul_le_mul (by omega) (Nat.two_pow_pos _);omega
  unfold pX;rw[if_neg hge,hX,hn1]
  have e1:(q * 2 ^ extra s+v) / 2 ^ extra s=q:=by
   rw[Nat.add_comm,Nat.add_mul_div_right _ _ (Nat.two_pow_pos _),Nat.div_eq_of_lt hv2,Nat.zero_add]
  rw[e1,f2,yT,hv,Nat.add_sub_cancel_left]
theorem z52 {zs:List Int} {bs:List Nat} {p:Nat} (hl:zs.length<=320):∀k n,n+k=15->Past zs (jU bs p) n->(bg zs bs p k n).2.1=0->
 ∃s,∃hs:s<zs.length,0<zs[s]/\aZ zs s<=15/\bg zs bs p k n=((s:Int),0,p+aZ zs s)/\msb (jU bs p) (aZ zs s)=dI zs s/\p+aZ zs s<=8 * bs.length
 |0,n,_,_,h=>by rw[bg]at h;simp at h
 |k+1,n,hn,hp,h=>by
  rw[bg]at h ⊢;by_cases h1:bZ zs 15<=bZ zs n
  ·rw[if_pos h1]at h;simp at h
  ·rw[if_neg h1]at h ⊢
   by_cases h2:8 * bs.length<=p+n
   ·rw[if_pos h2]at h;simp at h
   ·rw[if_neg h2]at h ⊢
    by_cases hh:msb (jU bs p) (n+1)<2 * bQ zs n+cnt zs (n+1)
    ·rw[if_pos hh]
     obtain ⟨s,hs,hz,hw,hg⟩:=found hl (by omega) (nH hp) hh;have hlen:=Jm hs (by omega);have e:aZ zs s=n+1:=(by omega);refine ⟨s,hs,by omega,by omega,?_,by rw[e,hw],by omega⟩;rw[z5a hg,e];rfl
    ·rw[if_neg hh]at h ⊢
     rcases r_ hp with h'|h'
     ·exact absurd h' hh
     ·exact z52 hl k (n+1) (by omega) h' h
theorem Fb {f:Nat->Nat} (hf:∀i,f i<2) (j:Nat):∀k,msb f (j+k) / 2 ^ k=msb f j
 |0=>by simp
 |k+1=>by
  have h:=hf (j+k);rw[Nat.pow_succ,Nat.mul_comm,←Nat.div_div_eq_div_mul,←Nat.add_assoc];show (2 * msb f (j+k)+f (j+k)) / 2 / 2 ^ k=_
  rw[show (2 * msb f (j+k)+f (j+k)) / 2=msb f (j+k) by omega,Fb hf j k]
theorem Ns {f:Nat->Nat} (hf:∀i,f i<2) (n:Nat):ak (msb f n) n=(List.range n).map fun i=>decide (f i=1):=by
 unfold ak;refine List.map_congr_left fun i hi=>?_;rw[List.mem_range]at hi;have h1:=Fb hf (i+1) (n-1-i);rw[show i+1+(n-1-i)=n by omega]at h1;rw[h1];show decide ((2 * msb f i+f i) % 2=1)=_
 have:=hf i;rw[decide_eq_decide];omega
theorem wO {a b n:Nat} (ha:a<2 ^ n) (hb:b<2 ^ n) (h:ak a n=ak b n):a=b:=by
 apply Nat.eq_of_testBit_eq
 intro i;by_cases hi:i<n
 ·rw[Om,Om]at h
  have e:=congrArg (fun l=>l[n-1-i]?) h;simp only[List.getElem?_map,List.getElem?_range (show n-1-i<n by omega),Option.map_some,Option.some.injEq]at e;rwa [show n-1-(n-1-i)=i by omega]at e
 ·rw[Nat.testBit_lt_two_pow (Nat.lt_of_lt_of_le ha (Nat.pow_le_pow_right (by omega) (by omega))),Nat.testBit_lt_two_pow (Nat.lt_of_lt_of_le hb (Nat.pow_le_pow_right (by omega) (by omega)))]
theorem qW (v m d:Nat):(ak v (m+d)).take m=ak (v / 2 ^ d) m:=by
 unfold ak;rw[←List.map_take,List.take_range,Nat.min_eq_left (by omega)];refine List.map_congr_left fun i hi=>?_;rw[List.mem_range]at hi;rw[Nat.div_div_eq_div_mul,←Nat.pow_add,show d+(m-1-i)=m+d-1-i by omega]
theorem strs_get {zs:List Int} {i:Nat} {x:List Bool} (h:(strs zs)[i]?=some x):i<zs.length/\x=gJ zs i:=by
 unfold strs at h;rw[List.getElem?_map]at h;by_cases hi:i<zs.length
 ·rw[List.getElem?_range hi]at h
  injection h with h;exact ⟨hi,h.symm⟩
 ·rw[List.getElem?_eq_none (by simp;omega)]at h
  cases h
theorem rE {zs:List Int} {i:Nat} (hi:i<zs.length) (h:gJ zs i≠[]):0<zs[i]/\gJ zs i=ak (dI zs i) (aZ zs i):=by
 unfold gJ at h ⊢;have e:zs.getD i 0=zs[i]:=by simp[List.getD,hi]
 rw[e]at h ⊢;by_cases h0:0<zs[i]
 ·exact ⟨h0,if_pos h0⟩
 ·rw[if_neg h0]at h
  exact absurd rfl h
theorem Ir {zs:List Int} (he:bH zs=0):QY (strs zs):=fun i j x y hx hy h0 hp=>by
 obtain ⟨a1,a2,a3, -⟩:=JA he;obtain ⟨hi,rfl⟩:=strs_get hx;obtain ⟨hj,rfl⟩:=strs_get hy;obtain ⟨b1,b2⟩:=rE hi h0
 have h1:gJ zs j≠[]:=fun e=>by
  rw[e]at hp;exact h0 (List.prefix_nil.1 hp)
 obtain ⟨c1,c2⟩:=rE hj h1;rw[b2,c2]at hp;have hle:=hp.length_le;rw[z03,z03]at hle;by_cases hij:i=j
 ·exact hij
 ·exfalso
  refine IV hi hj b1 c1 hij hle ?_;have e1:=List.prefix_iff_eq_take.1 hp;rw[z03]at e1;obtain ⟨d,hd⟩:∃d,aZ zs j=aZ zs i+d:=⟨aZ zs j-aZ zs i,by omega⟩;rw[hd,qW]at e1;rw[hd,Nat.add_sub_cancel_left];have l1:=Jm hi (by omega);have l2:=Jm hj (by omega);have z1:=(a2 _ (List.getElem_mem hi)).2;have z2:=(a2 _ (List.getElem_mem hj)).2;have w1:=Nat.lt_of_lt_of_le (XK hi b1) (UW a3 (aZ zs i) (by omega));have w2:=Nat.lt_of_lt_of_le (XK hj c1) (UW a3 (aZ zs j) (by omega));rw[hd,Nat.pow_add]at w2;exact (wO w1 (Nat.div_lt_of_lt_mul (by rw[Nat.mul_comm];exact w2)) e1).symm
theorem zS {zs:List Int} {bs:List Nat} {p:Nat} (he:bH zs=0) (h:(bg zs bs p 15 0).2.1=0):
 ∃s x,wE (strs zs) bs (8 * bs.length) p s x/\bg zs bs p 15 0=((s:Int),0,p+x.length):=by
 obtain ⟨a1,a2,a3, -⟩:=JA he;obtain ⟨s,hs,h1,h2,h3,h4,h5⟩:=z52 a1 15 0 rfl (rZ _ _) h
 have hw:gJ zs s=ak (dI zs s) (aZ zs s):=by
  unfold gJ;rw[if_pos (by simpa [List.getD,hs]using h1)]
 have hl:(gJ zs s).length=aZ zs s:=by rw[hw,z03]
 have hlen:=Jm hs (by omega);refine ⟨s,gJ zs s,⟨Ir he,?_,fun e=>?_,by omega,by omega,?_⟩,by rw[h3,hl]⟩
 ·unfold strs
  rw[List.getElem?_map,List.getElem?_range hs];rfl
 ·rw[e]at hl
  simp at hl;omega
 ·rw[hl,hw,←h4,Ns (Zu bs p)]
  rfl
end Go.Proofs.YtfljcllpmbnjaaaGreat
namespace Go.Proofs.YtfljcllpmbnjaaaGreat
open Go.RowKit
theorem z45 (D:Nat->Prop) (A:Option Addr) (n c:Nat) (zs:List Int) (w:World) (hr:Rd w D 1 A n (il zs)) (hl:zs.length=n) (hn:n<=400):
 Calls Tryz.prog 162 #[.slice A n c] w fun e w'=>e=.returned (.int .i64 (bH zs))/\Nx w w':=by
 have Hl:=ah hl;clear hl;go_enter Tryz.func162,Tryz.ntmps162;by_cases hbig:320<n
 ·have he:bH zs=5:=by unfold bH;rw[if_pos (by rw[Hl.out];exact hbig)]
  go_wp2_with fail;go_ret;rw[he];exact ⟨by simp,Ch.refl _ _⟩
 ·go_wp2_with fail
  go_loop [3,4,5,13] (fun sm wd on i=>∃k:Nat,k<=n/\i=.int .i64 k/\sm=.int .i64 (eu zs k:Int)/\wd=.int .i64 (iQ zs k:Int)/\on=.bool (jf zs k)/\Hid (∀z∈zs.take k,0<=z/\z<=15)) (fun _ _ _ i=>n-(intOf i).toNat)
  case atStart=>exact ⟨0,by omega,rfl,by simp[eu],by simp[iQ],rfl,ah (by simp)⟩
  case round=>
   obtain ⟨k,hk,rfl,rfl,rfl,rfl,hall⟩:=hrel;by_cases hlt:k<n
   ·obtain ⟨ad,u,rfl,kN,hu,hc⟩:=hr.at_ hlt
    have hkz:k<zs.length:=by rw[Hl.out];exact hlt
    rw[Dx hkz]at hu;injection hu with hu;subst hu;have hrs:=Zz hkz;have hps:=Zm hkz;have hrl:=Gv zs k (by omega);have hpl:=EZ zs k;have hmem:zs[k]∈zs:=List.getElem_mem hkz;have hgd:zs.getD k 0=zs[k]:=(by simp[List.getD,hkz]);have Hk:=ah hkz;have hgz:zs[k]=zs[k]:=rfl;generalize hz:zs[k]=z at *;have Hgz:Hid (zs[k]'Hk.out=z):=ah hz;have Hgd:=ah hgd;clear hgd hgz hz hkz;have Qs:=ah hrs;have Hps:=ah hps;have jC:=ah hmem;clear hrs hps hmem
    have ho1:jf zs (k+1)=if 0<z then decide (z=1) else jf zs k:=by
     rw[jf,Hgd.out]
    have Ho1:=ah ho1;clear ho1;by_cases hbad:z<0∨15<z
    ·have he:bH zs=1:=by unfold bH;rw[if_neg (by rw[Hl.out];exact hbig),if_pos ⟨z,jC.out,hbad⟩]
     have He:=ah he;clear he;by_cases hneg:z<0
     ·go_wp2_with fail
      go_ret;exact ⟨by simp[He.out],Ch.refl _ _⟩
     ·have hbig2:15<z:=by omega
      go_wp2_with fail;go_ret;exact ⟨by simp[He.out],Ch.refl _ _⟩
    ·have hall':Hid (∀x∈zs.take (k+1),0<=x/\x<=15):=ah (by
      intro x hx;rw[List.take_succ_eq_append_getElem Hk.out,List.mem_append]at hx;rcases hx with hx|hx
      ·exact hall.out x hx
      ·simp at hx
       rw[hx,Hgz.out];omega)
     by_cases hpos:0<z
     ·go_wp2_with fail
      have UG:=KD hpos (by omega);have hro:Ji z<=16384:=Zo z;have iC:wrap64 ((eu zs k:Int)+(Ji z:Int))=((eu zs k+Ji z:Nat):Int):=by unfold wrap64;omega
      go_round
      case rel=>exact ⟨k+1,by omega,by go_num,by rw[Qs.out,UG,iC],by rw[Hps.out,if_pos hpos];go_num,by rw[Ho1.out,if_pos hpos];rfl,hall'⟩
      case measure=>simp[intOf];omega
     ·go_wp2_with fail
      go_round
      case rel=>exact ⟨k+1,by omega,by go_num,by rw[Qs.out];unfold Ji;rw[if_neg hpos];go_num,by rw[Hps.out,if_neg hpos];go_num,by rw[Ho1.out,if_neg hpos],hall'⟩
      case measure=>simp[intOf];omega
   ·obtain rfl:k=n:=by omega
    have ZY:k=zs.length:=Hl.out.symm;have hm:=H_ (zs:=zs) (by omega) (by have:=hall.out;rw[ZY,List.take_length]at this;exact this);rw[←ZY]at hm;have Hm:=ah hm;clear hm ZY;have hpl:=EZ zs k;generalize iQ zs k=P at *;generalize eu zs k=R at *;generalize jf zs k=O at *
    have fin:∀v:Int,((0<P/\R≠32768/\¬(P=1/\O=true))->v=4)->(¬(0<P/\R≠32768/\¬(P=1/\O=true))->v=0)->Ending.returned (.int .i64 v)=.returned (.int .i64 (bH zs)):=by
     intro v h1 h2;rw[Hm.out];split
     ·next h=>rw[h1 h]
     ·next h=>rw[h2 h]
    have Fin:=ah fin;clear fin;by_cases h0:0<P
    ·by_cases h1:R=32768
     ·go_wp2_with fail
      go_ret;exact ⟨Fin.out _ (fun h=>absurd h1 h.2.1) (fun _=>rfl),Ch.refl _ _⟩
     ·by_cases h2:P=1
      ·cases O
       ·go_wp2_with fail
        go_ret;exact ⟨Fin.out _ (fun _=>rfl) (fun h=>absurd ⟨h0,h1,by simp⟩ h),Ch.refl _ _⟩
       ·go_wp2_with fail
        go_ret;exact ⟨Fin.out _ (fun h=>absurd ⟨h2,by first|trivial|rfl⟩ h.2.2) (fun _=>rfl),Ch.refl _ _⟩
      ·go_wp2_with fail
       go_ret;exact ⟨Fin.out _ (fun _=>rfl) (fun h=>absurd ⟨h0,h1,fun e=>h2 e.1⟩ h),Ch.refl _ _⟩
    ·go_wp2_with fail
     go_ret;exact ⟨Fin.out _ (fun h=>absurd h.1 h0) (fun _=>rfl),Ch.refl _ _⟩
end Go.Proofs.YtfljcllpmbnjaaaGreat
