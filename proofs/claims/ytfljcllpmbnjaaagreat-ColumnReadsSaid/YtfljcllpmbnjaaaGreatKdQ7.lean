/- Contracts and plain laws that the last text rests on. Conditions: each theorem states its own. -/
import Derived.Test.YtfljcllpmbnjaaaGreatKdQ5
import Derived.Test.YtfljcllpmbnjaaaGreatKdPdSqL
set_option maxRecDepth 100000
set_option maxHeartbeats 4000000
set_option linter.unusedVariables false
namespace Go.Proofs.YtfljcllpmbnjaaaGreat
open Go.RowKit
def AV (la n:Nat):List Nat:=[la,n % 256,n / 256,255-n % 256,255-n / 256]
def aW (xs:List Nat):List Nat:=AV 1 xs.length++xs
theorem EJ:∀m:Nat,m<256->bits .xor .u8 (if IntKind.u8.signed=true then -1 else IntKind.u8.max) (m:Int)=((255-m:Nat):Int):=by decide+kernel
set_option maxRecDepth 100000 in
theorem Gn (D:Nat->Prop) (A:Option Addr) (c:Nat) (xs:List Nat) (W:World) (hr:Rd W D 1 A xs.length (bl xs)) (hc:xs.length<=c) (hl:xs.length<=65535):
 Calls Tryz.prog 109 #[.slice A xs.length c] W fun e w'=>∃v,e=.returned v/\au W w' 5 1 v (aW xs).length (bl (aW xs)):=by
 obtain ⟨i0,hi0,hz0,hz1,hz2⟩:=info_parts Tryz.info5;have HR:=ah hr;obtain ⟨len,hlen⟩:∃len,xs.length=len:=⟨_,rfl⟩;rw[hlen]at hc hl HR ⊢;have Hlen:=ah hlen;have hc1:(len:Int)<=(c:Int):=by omega
 obtain ⟨qa,hqa⟩:∃qa,len % 256=qa:=⟨_,rfl⟩;obtain ⟨qb,SH⟩:∃qb,len / 256=qb:=⟨_,rfl⟩;have ha256:qa<256:=by omega
 have hb256:qb<256:=by omega
 have k1:IntKind.u8.wrap (len:Int)=(qa:Int):=by
  have:IntKind.u8.wrap (len:Int)=(len:Int) % 256:=by simp[IntKind.wrap,IntKind.bits,IntKind.signed]
  omega
 have k2:(len:Int) / 256=(qb:Int):=by omega
 have k3:IntKind.u8.wrap (qb:Int)=(qb:Int):=by
  have:IntKind.u8.wrap (qb:Int)=(qb:Int) % 256:=by simp[IntKind.wrap,IntKind.bits,IntKind.signed]
  omega
 have Hqa:=ah hqa;have Hqb:=ah SH;clear hqa SH;clear hr hlen;go_enter Tryz.func109,Tryz.ntmps109;go_wp2_with fail;refine wp_loop_rounds 1 ?_;rw[rounds_succ];go_upto_region 2 with fail
 go_cut [4] (fun s4 wx=>s4=.int .i64 (len:Int)/\wx=W)
 case first=>
  go_wp2_with fail
  all_goals go_meet
  all_goals exact ⟨by first|rfl|(congr 1;omega),rfl⟩
 case rest=>
  obtain ⟨rfl,hw⟩:=hcut;rw[hw];clear hw;go_upto_region 6 with fail
  have T0:=au.nil W (W.alloc (.cells #[.int .u8 1,.int .u8 (qa:Int),.int .u8 (qb:Int),.int .u8 (bits .xor .u8 (if IntKind.u8.signed=true then -1 else IntKind.u8.max) (qa:Int)),.int .u8 (bits .xor .u8 (if IntKind.u8.signed=true then -1 else IntKind.u8.max) (qb:Int))] 5)) 5 1 ((Ch.refl _ W).alloc _)
  have iD:Rd (W.alloc (.cells #[.int .u8 1,.int .u8 (qa:Int),.int .u8 (qb:Int),.int .u8 (bits .xor .u8 (if IntKind.u8.signed=true then -1 else IntKind.u8.max) (qa:Int)),.int .u8 (bits .xor .u8 (if IntKind.u8.signed=true then -1 else IntKind.u8.max) (qb:Int))] 5)) (fun k=>k=W.heap.size) 1 (some ⟨W.heap.size,0,none⟩) 5 (bl [1,qa,qb,255-qa,255-qb]):=
   ⟨rfl,fun _=>⟨_,rfl,rfl,by rw[EJ qa ha256,EJ qb hb256];exact World.news_of_block (dD.new W 5 #[.int .u8 1,.int .u8 (qa:Int),.int .u8 (qb:Int),.int .u8 ((255-qa:Nat):Int),.int .u8 ((255-qb:Nat):Int)])⟩⟩
  have HR5:=ah iD;clear iD
  go_wp2_with (at_builtin;first
   |(refine z01 rfl (.tmp 13) (.tmp 27) _ rfl 5 i0 _ 1 1 Tryz.underlying27 hi0 hz0 hz1 hz2 rfl (by omega) rfl T0 _ (some ⟨W.heap.size,0,none⟩) 5 5 (bl [1,qa,qb,255-qa,255-qb]) rfl HR5.out (iP _) (by simp[maxLen]) (by omega) ?_;intro v3 w3 o3 m3)
   |(refine z01 rfl (.tmp 29) (.tmp 32) _ rfl 5 i0 _ 1 1 Tryz.underlying27 hi0 hz0 hz1 hz2 rfl (by omega) rfl o3 _ A len c (bl xs) rfl (HR.out.nx (by decide) o3.nx) (iP _) (by simp only[maxLen];omega) (by omega) ?_;intro v4 w4 o4 m4))
  all_goals go_ret
  all_goals
   refine ⟨_,rfl,?_⟩;have e1:(aW xs).length=0+5+len:=by simp[aW,AV,Hlen.out];omega
   have e2:bl (aW xs)=[]++bl [1,qa,qb,255-qa,255-qb]++bl xs:=(by simp[aW,AV,Hlen.out,Hqa.out,Hqb.out,bl]);rw[e1,e2];exact o4
theorem OY (l:List Tok):(jY l).length=3 * l.length:=by
 induction l with
 |nil=>rfl
 |cons t l ih=>
  have e:jY (t::l)=dh t++jY l:=rfl;rw[e,List.length_append,ih,List.length_cons];simp[dh];omega
theorem mD {l:List Tok} {k:Nat} (h:k<l.length) (j:Nat) (hj:j<3):(jY l)[3 * k+j]?=(dh l[k])[j]?:=by
 have e:l=l.take k++l[k]::l.drop (k+1):=by rw[←List.drop_eq_getElem_cons h,List.take_append_drop]
 have e3:∀(a:List Tok) (t:Tok) (b:List Tok),jY (a++t::b)=jY a++(dh t++jY b):=fun a t b=>by simp[jY]
 have e2:=e3 (l.take k) l[k] (l.drop (k+1));have hl:(jY (l.take k)).length=3 * k:=by rw[OY,List.length_take,Nat.min_eq_left (by omega)]
 rw[←e]at e2;rw[e2,List.getElem?_append_right (by omega),hl,show 3 * k+j-3 * k=j by omega,List.getElem?_append_left (by simp[dh];exact hj)]
theorem XU {w:World} {B:Nat} {e:TypeId} {g c n:Nat} {l:List Tok} {k q:Nat} (h:w.ownsRow B e 3 (.slice (some ⟨g,0,none⟩) n c) n (jY l)) (hk:k<l.length) (hq:3 * k=q):
 w.cell? ⟨g,q,none⟩=some (.int .i64 (l[k].len:Int))/\w.cell? ⟨g,q+1,none⟩=some (.int .i64 (l[k].dist:Int))/\w.cell? ⟨g,q+2,none⟩=some (.int .u8 (l[k].byte:Int)):=by
 have adz:∀j,Addr.add ⟨g,0,none⟩ j=⟨g,j,none⟩:=fun j=>by
  unfold Addr.add;by_cases hj:j=0
  ·rw[if_pos hj,hj]
  ·rw[if_neg hj];simp
 have hc:=h.cells (g:=g) rfl;have e0:=hc _ _ (mD hk 0 (by omega));have e1:=hc _ _ (mD hk 1 (by omega));have e2:=hc _ _ (mD hk 2 (by omega));rw[adz,hq]at e0 e1 e2;exact ⟨e0,e1,e2⟩
def WX (t:Tok):Prop:=(t.len=0/\t.byte<256)∨(3<=t.len/\t.len<=258/\1<=t.dist/\t.dist<=32768)
theorem Yt {xs:List Nat} (ok:okB xs):∀f p,∀t∈aF xs f p,WX t:=by
 intro f;induction f with
 |zero=>intro p t h;cases h
 |succ f ih=>
  intro p t h;rw[aF]at h;split at h
  ·cases h
  ·rcases List.mem_cons.1 h with h|h
   ·subst h
    rcases XW xs p with e|e
    ·rw[e];exact .inl ⟨rfl,uf ok p⟩
    ·exact .inr ⟨e.1,e.2.1,e.2.2.1,e.2.2.2.1⟩
   ·exact ih _ t h
theorem zH (e:Nat):(pX e).length<=30:=by
 unfold pX;split
 ·rw[z03];omega
 ·rw[List.length_append,Jo,z03]
  have h2:=(JO (b:=4) (m:=e) 20 0).2;unfold fJ;omega
theorem Bv (t:Tok):(iV t).length<=60:=by
 unfold iV;split
 ·exact Nat.le_trans (JE _) (by omega)
 ·rw[List.length_append];have:=nO t.len;have:=zH (t.dist-1);omega
theorem Yi (l:List Tok):(bG l).length<=3+60 * l.length:=by
 unfold bG;rw[List.length_append,Jo]
 have:(l.flatMap iV).length<=60 * l.length:=by
  induction l with
  |nil=>simp
  |cons t l ih=>
   have:=Bv t;rw[List.flatMap_cons,List.length_append,List.length_cons];omega
 omega
theorem Yx {l:List Tok} {k:Nat} (h:k<l.length):bG (l.take (k+1))=bG (l.take k)++iV l[k]:=by
 rw[List.take_succ_eq_append_getElem h];unfold bG;rw[List.flatMap_append,List.append_assoc];simp
def aX (xs:List Nat):List Nat:=if (pack (aI (aF xs xs.length 0))).length<(aW xs).length then pack (aI (aF xs xs.length 0)) else aW xs
def fC (W w:World) (g:Nat) (l:List Bool):Prop:=∃h,ig w g h l/\(∀j,h=some j->W.heap.size<=j)/\Nx W w
theorem fC.next {W w w1:World} {g:Nat} {h:Option Nat} {l2:List Bool} (n:Nx W w) (hg:W.heap.size<=g) (hh:∀j,h=some j->W.heap.size<=j) (t:gI w g h l2 w1):fC W w1 g l2:=by
 obtain ⟨h1,r1,q1,c1⟩:=t;exact ⟨h1,r1,R_ n.size hh q1,Vy n c1 hg hh⟩
set_option maxRecDepth 100000 in
theorem BX (D:Nat->Prop) (A:Option Addr) (c:Nat) (xs:List Nat) (W:World) (hr:Rd W D 1 A xs.length (bl xs)) (ok:okB xs) (hc:xs.length<=c) (hl:xs.length<=65535):
 Calls Tryz.prog 74 #[.slice A xs.length c] W fun e w'=>∃A' c',e=.returned (.tuple #[.slice A' (aX xs).length c',.int .i64 0])/\(∃D',Rd w' D' 1 A' (aX xs).length (bl (aX xs)))/\Nx W w':=by
 go_enter Tryz.func74,Tryz.ntmps74;go_wp2_with fail;refine (Zp D A c xs W hr ok (by omega)).mono ?_;rintro e w1 ⟨v,rfl,ho,n1⟩;have hr1:=hr.nx (by decide) n1;have htl:=z2n (b:=xs) xs.length 0;have htok:=Yt ok xs.length 0;have HD:Hid (aX xs=if (pack (aI (aF xs xs.length 0))).length<(aW xs).length then pack (aI (aF xs xs.length 0)) else aW xs):=ah rfl;generalize aF xs xs.length 0=l at *;obtain ⟨nt,hnt⟩:∃nt,l.length=nt:=⟨_,rfl⟩;rw[hnt]at ho htl;obtain ⟨A1,c1,rfl,_,_⟩:=z05 ho;have NT:=ah hnt;have Ho:=ah ho;have wV:=ah htok;have hnew:=ig.new w1;have nw:Nx w1 (w1.alloc (.cells #[.slice none 0 0,.int .i64 0] 69)):=(Ch.refl _ w1).alloc _;obtain ⟨g,hg⟩:∃g,w1.heap.size=g:=⟨_,rfl⟩;have hg1:w1.heap.size<=g:=by omega
 rw[hg]at hnew;clear hnt ho htok;go_wp2_with fail;refine (Rz g none [] 3 3 _ hnew (by simp) (by omega) (by omega)).mono ?_;rintro e w2 ⟨rfl,t2⟩;have h2:=fC.next nw hg1 (by intro j hj;cases hj) t2;clear t2 hnew nw;go_wp2_with fail;go_loopw [25] (fun i wr=>∃k:Nat,k<=nt/\i=.int .i64 (k:Int)/\fC w1 wr g (bG (l.take k))) (fun i _=>nt-(intOf i).toNat)
 case atStart=>exact ⟨0,Nat.zero_le _,rfl,by simpa [bG]using h2⟩
 case round=>
  clear h2;obtain ⟨w3,rfl⟩:∃w3:World,w3=wr:=⟨_,rfl⟩;obtain ⟨k,hk,rfl,h3,rw3,hh3,nx3⟩:=hrel
  have hl3:(bG (l.take k)).length<=10000000:=by
   have h1:=Yi (l.take k);have h2:(l.take k).length<=k:=by simp;omega
   omega
  by_cases hlt:k<nt
  ·have hkl:k<l.length:=by rw[NT.out];exact hlt
   obtain ⟨g1,cap,hv,_,_⟩:=Ho.out.form (by omega);injection hv with hA hlq hcc;clear hlq;subst hA;subst hcc;obtain ⟨q,hq⟩:∃q,3 * k=q:=⟨_,rfl⟩;obtain ⟨a0,a1,a2⟩:=XU (z06 Ho.out nx3 (fun _ _ hf=>hf)) hkl hq;have hq':k * 3=q:=(by omega);have hlt2:(k:Int)<(nt:Int):=(by omega);have hk0:(0:Int)<=(k:Int):=(by omega);have gX:=ah (Yx hkl);have htk:=wV.out _ (List.getElem_mem hkl);clear hq;generalize l[k]=tk at *;obtain ⟨tb,htb⟩:∃tb,w3.heap.size=tb:=⟨_,rfl⟩;obtain ⟨w4,hw4⟩:∃w4,w3.alloc (.cells #[.int .i64 (tk.len:Int),.int .i64 (tk.dist:Int),.int .u8 (tk.byte:Int)] 129)=w4:=⟨_,rfl⟩;have n4:Nx w3 (w3.alloc (.cells #[.int .i64 (tk.len:Int),.int .i64 (tk.dist:Int),.int .u8 (tk.byte:Int)] 129)):=(Ch.refl _ w3).alloc _;have hB4:=dD.new w3 129 #[.int .i64 (tk.len:Int),.int .i64 (tk.dist:Int),.int .u8 (tk.byte:Int)];rw[hw4]at n4 hB4;rw[htb]at hB4;have HW:=ah hw4;have HT:=ah htb;have rw4:=rw3.ch n4 (fun hf=>hf) (fun _ _ hf=>hf);have nx4:=nx3.tr n4;clear htb hw4 rw3;go_upto_region 9 with fail
   try simp only[HT.out,HW.out]
   clear HT HW a0 a1 a2 n4 nx3;have d0:w4.cell? ⟨tb,0,none⟩=some (.int .i64 (tk.len:Int)):=hB4.cell 0;have d1:w4.cell? ⟨tb,1,none⟩=some (.int .i64 (tk.dist:Int)):=hB4.cell 1;have d2:w4.cell? ⟨tb,2,none⟩=some (.int .u8 (tk.byte:Int)):=hB4.cell 2;by_cases hz:tk.len=0
   ·have hb:iV tk=aK tk.byte:=by unfold iV;rw[if_pos hz]
    have Hb:=ah hb;have hby:tk.byte<256:=by rcases htk with h|h;exact h.2;omega
    have SC:((tk.len:Int)==0)=true:=by rw[beq_iff_eq];omega
    clear hb htk hz;go_wp2_with fail;refine (OT g h3 _ tk.byte w4 rw4 (by omega) (by omega)).mono ?_;rintro e w5 ⟨rfl,t5⟩;have h5:=fC.next nx4 hg1 hh3 t5;go_wp2_with fail;go_roundw
    case rel=>exact ⟨k+1,by omega,by go_num,by rw[gX.out,Hb.out];exact h5⟩
    case measure=>simp[intOf];omega
   ·have hb:iV tk=jX tk.len++pX (tk.dist-1):=by unfold iV;rw[if_neg hz]
    have Hb:=ah hb;have hok:3<=tk.len/\tk.len<=258/\1<=tk.dist/\tk.dist<=32768:=by rcases htk with h|h;exact absurd h.1 hz;exact h
    have SC:((tk.len:Int)==0)=false:=by rw[beq_eq_false_iff_ne];omega
    clear hb htk hz;go_wp2_with fail;refine (ZB g h3 _ tk.len tk.dist w4 rw4 (by omega) hok.1 hok.2.1 hok.2.2.1 hok.2.2.2).mono ?_;rintro e w5 ⟨rfl,t5⟩;have h5:=fC.next nx4 hg1 hh3 t5;go_wp2_with fail;go_roundw
    case rel=>exact ⟨k+1,by omega,by go_num,by rw[gX.out,Hb.out];exact h5⟩
    case measure=>simp[intOf];omega
  ·have hkn:k=nt:=by omega
   have htake:l.take k=l:=List.take_of_length_le (by rw[NT.out];omega);rw[htake]at rw3 hl3;have hlt2:¬((k:Int)<(nt:Int)):=(by omega);clear htake;go_wp2_with fail;refine (OT g h3 _ 256 w3 rw3 (by omega) (by omega)).mono ?_;rintro e w4 ⟨rfl,t4⟩;obtain ⟨h4,rw4,hh4,nx4⟩:=fC.next nx3 hg1 hh3 t4;rw[show bG l++aK 256=aI l from rfl]at rw4;have hl4:(aI l).length<=20000000:=by unfold aI;rw[List.length_append];have:=JE 256;omega
   clear t4 rw3;go_wp2_with fail;refine (XH g h4 _ w4 rw4 (by omega)).mono ?_;rintro e w5 ⟨k5,cap5,rfl,hk5,hk5',ho5,iD,nx5⟩;have hr5:=(hr1.nx (by decide) nx4).nx (by decide) nx5;go_wp2_with fail;refine (Gn D A c xs w5 hr5 hc hl).mono ?_;rintro e w6 ⟨v6,rfl,ho6⟩;obtain ⟨A6,c6,rfl,_,_⟩:=ho6.form;have nx6:=ho6.nx;have hall:=n1.tr ((nx4.tr nx5).tr nx6);have Il:=iD.nx (by decide) nx6;have hs6:=ho6.rd;clear ho5 iD ho6;generalize pack (aI l)=pf at *;generalize aW xs=ps at *;by_cases hlt3:pf.length<ps.length
   ·have hd:aX xs=pf:=by rw[HD.out,if_pos hlt3]
    have Hd:=ah hd;have hlt4:(pf.length:Int)<(ps.length:Int):=(by omega);clear hd;go_wp2_with fail;go_ret2;rw[Hd.out];exact ⟨_,_,rfl,⟨_,Il⟩,hall⟩
   ·have hd:aX xs=ps:=by rw[HD.out,if_neg hlt3]
    have Hd:=ah hd;have hlt4:¬((pf.length:Int)<(ps.length:Int)):=(by omega);clear hd;go_wp2_with fail;go_ret2;rw[Hd.out];exact ⟨_,_,rfl,⟨_,hs6⟩,hall⟩
theorem mG (A:Option Addr) (n c:Nat) (W:World) (hn:65536<n):
 Calls Tryz.prog 106 #[.slice A n c] W fun e w'=>e=.returned (.tuple #[.slice none 0 0,.int .i64 5])/\Nx W w':=by
 have hn2:(65536:Int)<(n:Int):=by omega
 go_enter Tryz.func106,Tryz.ntmps106;go_wp2_with fail;go_ret2;exact ⟨rfl,(Ch.refl _ W).alloc _⟩
theorem z4S (A:Option Addr) (n c:Nat) (W:World) (hn:65536<n):
 Calls Tryz.prog 74 #[.slice A n c] W fun e w'=>e=.returned (.tuple #[.slice none 0 0,.int .i64 5])/\Nx W w':=by
 go_enter Tryz.func74,Tryz.ntmps74;go_wp2_with fail;refine (mG A n c W hn).mono ?_;rintro e w1 ⟨rfl,n1⟩;go_wp2_with fail;go_ret2;exact ⟨rfl,n1⟩
set_option maxRecDepth 100000 in
theorem mJ (D:Nat->Prop) (A:Option Addr) (c:Nat) (xs:List Nat) (W:World) (hr:Rd W D 1 A xs.length (bl xs)) (ok:okB xs) (hl:xs.length<=65536) (m:Nat) (hfew:(pack (aI (aF xs xs.length 0))).length<m)
 (hS:∀w:World,Rd w D 1 A xs.length (bl xs)->Calls Tryz.prog 109 #[.slice A xs.length c] w fun e w'=>∃A' c',e=.returned (.slice A' m c')/\Nx w w'):
 Calls Tryz.prog 74 #[.slice A xs.length c] W fun e w'=>∃A' c',e=.returned (.tuple #[.slice A' (pack (aI (aF xs xs.length 0))).length c',.int .i64 0])/\(∃D',Rd w' D' 1 A' (pack (aI (aF xs xs.length 0))).length (bl (pack (aI (aF xs xs.length 0)))))/\Nx W w':=by
 have HS:=ah hS;clear hS;have htl:=z2n (b:=xs) xs.length 0;have htok:=Yt ok xs.length 0;obtain ⟨l,hlt0⟩:∃l,aF xs xs.length 0=l:=⟨_,rfl⟩;rw[hlt0]at hfew htl htok ⊢;have HL0:=ah hlt0;clear hlt0;go_enter Tryz.func74,Tryz.ntmps74;go_wp2_with fail;refine (Zp D A c xs W hr ok (by omega)).mono ?_;rintro e w1 ⟨v,rfl,ho,n1⟩;have hr1:=hr.nx (by decide) n1;rw[HL0.out]at ho;obtain ⟨nt,hnt⟩:∃nt,l.length=nt:=⟨_,rfl⟩;rw[hnt]at ho htl;obtain ⟨A1,c1,rfl,_,_⟩:=z05 ho;have NT:=ah hnt;have Ho:=ah ho;have wV:=ah htok;have hnew:=ig.new w1;have nw:Nx w1 (w1.alloc (.cells #[.slice none 0 0,.int .i64 0] 69)):=(Ch.refl _ w1).alloc _;obtain ⟨g,hg⟩:∃g,w1.heap.size=g:=⟨_,rfl⟩;have hg1:w1.heap.size<=g:=by omega
 rw[hg]at hnew;clear hnt ho htok;go_wp2_with fail;refine (Rz g none [] 3 3 _ hnew (by simp) (by omega) (by omega)).mono ?_;rintro e w2 ⟨rfl,t2⟩;have h2:=fC.next nw hg1 (by intro j hj;cases hj) t2;clear t2 hnew nw;go_wp2_with fail;go_loopw [25] (fun i wr=>∃k:Nat,k<=nt/\i=.int .i64 (k:Int)/\fC w1 wr g (bG (l.take k))) (fun i _=>nt-(intOf i).toNat)
 case atStart=>exact ⟨0,Nat.zero_le _,rfl,by simpa [bG]using h2⟩
 case round=>
  clear h2;obtain ⟨w3,rfl⟩:∃w3:World,w3=wr:=⟨_,rfl⟩;obtain ⟨k,hk,rfl,h3,rw3,hh3,nx3⟩:=hrel
  have hl3:(bG (l.take k)).length<=10000000:=by
   have h1:=Yi (l.take k);have h2:(l.take k).length<=k:=by simp;omega
   omega
  by_cases hlt:k<nt
  ·have hkl:k<l.length:=by rw[NT.out];exact hlt
   obtain ⟨g1,cap,hv,_,_⟩:=Ho.out.form (by omega);injection hv with hA hlq hcc;clear hlq;subst hA;subst hcc;obtain ⟨q,hq⟩:∃q,3 * k=q:=⟨_,rfl⟩;obtain ⟨a0,a1,a2⟩:=XU (z06 Ho.out nx3 (fun _ _ hf=>hf)) hkl hq;have hq':k * 3=q:=(by omega);have hlt2:(k:Int)<(nt:Int):=(by omega);have hk0:(0:Int)<=(k:Int):=(by omega);have gX:=ah (Yx hkl);have htk:=wV.out _ (List.getElem_mem hkl);clear hq;generalize l[k]=tk at *;obtain ⟨tb,htb⟩:∃tb,w3.heap.size=tb:=⟨_,rfl⟩;obtain ⟨w4,hw4⟩:∃w4,w3.alloc (.cells #[.int .i64 (tk.len:Int),.int .i64 (tk.dist:Int),.int .u8 (tk.byte:Int)] 129)=w4:=⟨_,rfl⟩;have n4:Nx w3 (w3.alloc (.cells #[.int .i64 (tk.len:Int),.int .i64 (tk.dist:Int),.int .u8 (tk.byte:Int)] 129)):=(Ch.refl _ w3).alloc _;have hB4:=dD.new w3 129 #[.int .i64 (tk.len:Int),.int .i64 (tk.dist:Int),.int .u8 (tk.byte:Int)];rw[hw4]at n4 hB4;rw[htb]at hB4;have HW:=ah hw4;have HT:=ah htb;have rw4:=rw3.ch n4 (fun hf=>hf) (fun _ _ hf=>hf);have nx4:=nx3.tr n4;clear htb hw4 rw3;go_upto_region 9 with fail
   try simp only[HT.out,HW.out]
   clear HT HW a0 a1 a2 n4 nx3;have d0:w4.cell? ⟨tb,0,none⟩=some (.int .i64 (tk.len:Int)):=hB4.cell 0;have d1:w4.cell? ⟨tb,1,none⟩=some (.int .i64 (tk.dist:Int)):=hB4.cell 1;have d2:w4.cell? ⟨tb,2,none⟩=some (.int .u8 (tk.byte:Int)):=hB4.cell 2;by_cases hz:tk.len=0
   ·have hb:iV tk=aK tk.byte:=by unfold iV;rw[if_pos hz]
    have Hb:=ah hb;have hby:tk.byte<256:=by rcases htk with h|h;exact h.2;omega
    have SC:((tk.len:Int)==0)=true:=by rw[beq_iff_eq];omega
    clear hb htk hz;go_wp2_with fail;refine (OT g h3 _ tk.byte w4 rw4 (by omega) (by omega)).mono ?_;rintro e w5 ⟨rfl,t5⟩;have h5:=fC.next nx4 hg1 hh3 t5;go_wp2_with fail;go_roundw
    case rel=>exact ⟨k+1,by omega,by go_num,by rw[gX.out,Hb.out];exact h5⟩
    case measure=>simp[intOf];omega
   ·have hb:iV tk=jX tk.len++pX (tk.dist-1):=by unfold iV;rw[if_neg hz]
    have Hb:=ah hb;have hok:3<=tk.len/\tk.len<=258/\1<=tk.dist/\tk.dist<=32768:=by rcases htk with h|h;exact absurd h.1 hz;exact h
    have SC:((tk.len:Int)==0)=false:=by rw[beq_eq_false_iff_ne];omega
    clear hb htk hz;go_wp2_with fail;refine (ZB g h3 _ tk.len tk.dist w4 rw4 (by omega) hok.1 hok.2.1 hok.2.2.1 hok.2.2.2).mono ?_;rintro e w5 ⟨rfl,t5⟩;have h5:=fC.next nx4 hg1 hh3 t5;go_wp2_with fail;go_roundw
    case rel=>exact ⟨k+1,by omega,by go_num,by rw[gX.out,Hb.out];exact h5⟩
    case measure=>simp[intOf];omega
  ·have hkn:k=nt:=by omega
   have htake:l.take k=l:=List.take_of_length_le (by rw[NT.out];omega);rw[htake]at rw3 hl3;have hlt2:¬((k:Int)<(nt:Int)):=(by omega);clear htake;go_wp2_with fail;refine (OT g h3 _ 256 w3 rw3 (by omega) (by omega)).mono ?_;rintro e w4 ⟨rfl,t4⟩;obtain ⟨h4,rw4,hh4,nx4⟩:=fC.next nx3 hg1 hh3 t4;rw[show bG l++aK 256=aI l from rfl]at rw4;have hl4:(aI l).length<=20000000:=by unfold aI;rw[List.length_append];have:=JE 256;omega
   clear t4 rw3;go_wp2_with fail;refine (XH g h4 _ w4 rw4 (by omega)).mono ?_;rintro e w5 ⟨k5,cap5,rfl,hk5,hk5',ho5,iD,nx5⟩;have hr5:=(hr1.nx (by decide) nx4).nx (by decide) nx5;go_wp2_with fail;refine (HS.out w5 hr5).mono ?_;rintro e w6 ⟨A6,c6,rfl,nx6⟩;have hall:=n1.tr ((nx4.tr nx5).tr nx6);have Il:=iD.nx (by decide) nx6;clear ho5 iD;obtain ⟨pf,hpf⟩:∃pf,pack (aI l)=pf:=⟨_,rfl⟩;rw[hpf]at Il hfew ⊢;have HPF:=ah hpf;clear hpf;have hlt4:(pf.length:Int)<(m:Int):=(by omega);go_wp2_with fail;go_ret2;rw[HPF.out];exact ⟨_,_,rfl,⟨_,Il⟩,hall⟩
set_option maxRecDepth 100000 in
theorem qm (D:Nat->Prop) (A:Option Addr) (c:Nat) (xs:List Nat) (W:World) (hr:Rd W D 1 A 65536 (bl xs)) (hc:65536<=c):
 Calls Tryz.prog 109 #[.slice A 65536 c] W fun e w'=>∃A' c',e=.returned (.slice A' 65546 c')/\Nx W w':=by
 obtain ⟨i0,hi0,hz0,hz1,hz2⟩:=info_parts Tryz.info5;obtain ⟨ad,hA,kN,_⟩:=hr.2 (by omega);subst hA;have hlx:xs.length=65536:=by have:=hr.1;rw[z21]at this;omega
 have hr1:Rd W D 1 (some ad) 65535 (bl (xs.take 65535)):=by
  have:=hr.take (k:=65535) (by omega);rw[Nat.mul_one]at this;rw[show bl (xs.take 65535)=(bl xs).take 65535 by simp[bl,List.map_take]];exact this
 have hr2:Rd W D 1 (some (ad.add 65535)) 1 (bl (xs.drop 65535)):=by
  have h0:=hr.cut (k:=65535) (cap:=c) (by omega) (by omega);rw[if_neg (by omega),Nat.mul_one]at h0;rw[show bl (xs.drop 65535)=(bl xs).drop 65535 by simp[bl,List.map_drop]];exact h0
 have T0:=au.nil W (W.alloc (.cells #[.int .u8 0,.int .u8 255,.int .u8 255,.int .u8 0,.int .u8 0] 5)) 5 1 ((Ch.refl _ W).alloc _)
 have iD:Rd (W.alloc (.cells #[.int .u8 0,.int .u8 255,.int .u8 255,.int .u8 0,.int .u8 0] 5)) (fun k=>k=W.heap.size) 1 (some ⟨W.heap.size,0,none⟩) 5 (bl [0,255,255,0,0]):=
  ⟨rfl,fun _=>⟨_,rfl,rfl,World.news_of_block (dD.new W 5 #[.int .u8 0,.int .u8 255,.int .u8 255,.int .u8 0,.int .u8 0])⟩⟩
 have HR5:=ah iD;have HR1:=ah hr1;have HR2:=ah hr2;have hc1:(65535:Int)<=(c:Int):=by omega
 have hc2:(65536:Int)<=(c:Int):=by omega
 have hc3:¬c=65535:=by omega
 clear iD hr hr1 hr2;go_enter Tryz.func109,Tryz.ntmps109;go_wp2_with fail;refine wp_loop_rounds 2 ?_;rw[rounds_succ]
 go_wp2_with (at_builtin;first
  |(refine z01 rfl (.tmp 13) (.tmp 27) _ rfl 5 i0 _ 1 1 Tryz.underlying27 hi0 hz0 hz1 hz2 rfl (by omega) rfl T0 _ (some ⟨W.heap.size,0,none⟩) 5 5 (bl [0,255,255,0,0]) rfl HR5.out (iP _) (by simp[maxLen]) (by omega) ?_;intro v3 w3 o3 m3)
  |(refine z01 rfl (.tmp 29) (.tmp 32) _ rfl 5 i0 _ 1 1 Tryz.underlying27 hi0 hz0 hz1 hz2 rfl (by omega) rfl o3 _ (some ad) 65535 c (bl (xs.take 65535)) rfl (HR1.out.nx (by decide) o3.nx) (iP _) (by simp[maxLen]) (by omega) ?_;intro v4 w4 o4 m4))
 have T1:=o4.alloc (.cells #[.int .u8 1,.int .u8 1,.int .u8 0,.int .u8 254,.int .u8 255] 5)
 have iD:Rd (w4.alloc (.cells #[.int .u8 1,.int .u8 1,.int .u8 0,.int .u8 254,.int .u8 255] 5)) (fun k=>k=w4.heap.size) 1 (some ⟨w4.heap.size,0,none⟩) 5 (bl [1,1,0,254,255]):=
  ⟨rfl,fun _=>⟨_,rfl,rfl,World.news_of_block (dD.new w4 5 #[.int .u8 1,.int .u8 1,.int .u8 0,.int .u8 254,.int .u8 255])⟩⟩
 have HR6:=ah iD;obtain ⟨c2,hcc⟩:∃c2,c-65535=c2:=⟨_,rfl⟩;have hc4:(1:Int)<=(c2:Int):=by omega
 simp only[hcc];obtain ⟨n4,hn4⟩:∃n4,0+5+65535=n4:=⟨_,rfl⟩;have hn5:n4+5+1=65546:=by omega
 have Hn5:=ah hn5;have hn6:n4<=100000:=by omega
 rw[hn4]at T1;clear iD hcc hc hc1 hc2 hc3 hlx HR1 HR5 T0 o3 m3 o4 m4 hn4 hn5;rw[rounds_succ]
 go_wp2_with (at_builtin;first
  |(refine z01 rfl (.tmp 13) (.tmp 27) _ rfl 5 i0 _ 1 1 Tryz.underlying27 hi0 hz0 hz1 hz2 rfl (by omega) rfl T1 _ (some ⟨w4.heap.size,0,none⟩) 5 5 (bl [1,1,0,254,255]) rfl HR6.out (iP _) (by simp only[maxLen];omega) (by omega) ?_;intro v5 w5 o5 m5)
  |(refine z01 rfl (.tmp 29) (.tmp 32) _ rfl 5 i0 _ 1 1 Tryz.underlying27 hi0 hz0 hz1 hz2 rfl (by omega) rfl o5 _ (some (ad.add 65535)) 1 c2 (bl (xs.drop 65535)) rfl (HR2.out.nx (by decide) o5.nx) (iP _) (by simp only[maxLen];omega) (by omega) ?_;intro v6 w6 o6 m6;rw[Hn5.out]at o6;obtain ⟨A6,c6,rfl,_,_⟩:=o6.form))
 all_goals go_ret
 all_goals first|exact o6.nx|exact ⟨⟨_,_,rfl⟩,o6.nx⟩|exact ⟨_,_,rfl,o6.nx⟩
set_option maxRecDepth 100000 in
theorem z4R (D:Nat->Prop) (A:Option Addr) (c:Nat) (xs:List Nat) (W:World) (hr:Rd W D 1 A xs.length (bl xs)) (ok:okB xs) (hl:xs.length<=65536) (m:Nat) (hfew:¬(pack (aI (aF xs xs.length 0))).length<m)
 (hS:∀w:World,Rd w D 1 A xs.length (bl xs)->Calls Tryz.prog 109 #[.slice A xs.length c] w fun e w'=>∃A' c',e=.returned (.slice A' m c')/\Nx w w'):
 Calls Tryz.prog 74 #[.slice A xs.length c] W fun e w'=>∃A' c',e=.returned (.tuple #[.slice A' m c',.int .i64 0])/\Nx W w':=by
 have HS:=ah hS;clear hS;have htl:=z2n (b:=xs) xs.length 0;have htok:=Yt ok xs.length 0;obtain ⟨l,hlt0⟩:∃l,aF xs xs.length 0=l:=⟨_,rfl⟩;rw[hlt0]at hfew htl htok;have HL0:=ah hlt0;clear hlt0;go_enter Tryz.func74,Tryz.ntmps74;go_wp2_with fail;refine (Zp D A c xs W hr ok (by omega)).mono ?_;rintro e w1 ⟨v,rfl,ho,n1⟩;have hr1:=hr.nx (by decide) n1;rw[HL0.out]at ho;obtain ⟨nt,hnt⟩:∃nt,l.length=nt:=⟨_,rfl⟩;rw[hnt]at ho htl;obtain ⟨A1,c1,rfl,_,_⟩:=z05 ho;have NT:=ah hnt;have Ho:=ah ho;have wV:=ah htok;have hnew:=ig.new w1;have nw:Nx w1 (w1.alloc (.cells #[.slice none 0 0,.int .i64 0] 69)):=(Ch.refl _ w1).alloc _;obtain ⟨g,hg⟩:∃g,w1.heap.size=g:=⟨_,rfl⟩;have hg1:w1.heap.size<=g:=by omega
 rw[hg]at hnew;clear hnt ho htok;go_wp2_with fail;refine (Rz g none [] 3 3 _ hnew (by simp) (by omega) (by omega)).mono ?_;rintro e w2 ⟨rfl,t2⟩;have h2:=fC.next nw hg1 (by intro j hj;cases hj) t2;clear t2 hnew nw;go_wp2_with fail;go_loopw [25] (fun i wr=>∃k:Nat,k<=nt/\i=.int .i64 (k:Int)/\fC w1 wr g (bG (l.take k))) (fun i _=>nt-(intOf i).toNat)
 case atStart=>exact ⟨0,Nat.zero_le _,rfl,by simpa [bG]using h2⟩
 case round=>
  clear h2;obtain ⟨w3,rfl⟩:∃w3:World,w3=wr:=⟨_,rfl⟩;obtain ⟨k,hk,rfl,h3,rw3,hh3,nx3⟩:=hrel
  have hl3:(bG (l.take k)).length<=10000000:=by
   have h1:=Yi (l.take k);have h2:(l.take k).length<=k:=by simp;omega
   omega
  by_cases hlt:k<nt
  ·have hkl:k<l.length:=by rw[NT.out];exact hlt
   obtain ⟨g1,cap,hv,_,_⟩:=Ho.out.form (by omega);injection hv with hA hlq hcc;clear hlq;subst hA;subst hcc;obtain ⟨q,hq⟩:∃q,3 * k=q:=⟨_,rfl⟩;obtain ⟨a0,a1,a2⟩:=XU (z06 Ho.out nx3 (fun _ _ hf=>hf)) hkl hq;have hq':k * 3=q:=(by omega);have hlt2:(k:Int)<(nt:Int):=(by omega);have hk0:(0:Int)<=(k:Int):=(by omega);have gX:=ah (Yx hkl);have htk:=wV.out _ (List.getElem_mem hkl);clear hq;generalize l[k]=tk at *;obtain ⟨tb,htb⟩:∃tb,w3.heap.size=tb:=⟨_,rfl⟩;obtain ⟨w4,hw4⟩:∃w4,w3.alloc (.cells #[.int .i64 (tk.len:Int),.int .i64 (tk.dist:Int),.int .u8 (tk.byte:Int)] 129)=w4:=⟨_,rfl⟩;have n4:Nx w3 (w3.alloc (.cells #[.int .i64 (tk.len:Int),.int .i64 (tk.dist:Int),.int .u8 (tk.byte:Int)] 129)):=(Ch.refl _ w3).alloc _;have hB4:=dD.new w3 129 #[.int .i64 (tk.len:Int),.int .i64 (tk.dist:Int),.int .u8 (tk.byte:Int)];rw[hw4]at n4 hB4;rw[htb]at hB4;have HW:=ah hw4;have HT:=ah htb;have rw4:=rw3.ch n4 (fun hf=>hf) (fun _ _ hf=>hf);have nx4:=nx3.tr n4;clear htb hw4 rw3;go_upto_region 9 with fail
   try simp only[HT.out,HW.out]
   clear HT HW a0 a1 a2 n4 nx3;have d0:w4.cell? ⟨tb,0,none⟩=some (.int .i64 (tk.len:Int)):=hB4.cell 0;have d1:w4.cell? ⟨tb,1,none⟩=some (.int .i64 (tk.dist:Int)):=hB4.cell 1;have d2:w4.cell? ⟨tb,2,none⟩=some (.int .u8 (tk.byte:Int)):=hB4.cell 2;by_cases hz:tk.len=0
   ·have hb:iV tk=aK tk.byte:=by unfold iV;rw[if_pos hz]
    have Hb:=ah hb;have hby:tk.byte<256:=by rcases htk with h|h;exact h.2;omega
    have SC:((tk.len:Int)==0)=true:=by rw[beq_iff_eq];omega
    clear hb htk hz;go_wp2_with fail;refine (OT g h3 _ tk.byte w4 rw4 (by omega) (by omega)).mono ?_;rintro e w5 ⟨rfl,t5⟩;have h5:=fC.next nx4 hg1 hh3 t5;go_wp2_with fail;go_roundw
    case rel=>exact ⟨k+1,by omega,by go_num,by rw[gX.out,Hb.out];exact h5⟩
    case measure=>simp[intOf];omega
   ·have hb:iV tk=jX tk.len++pX (tk.dist-1):=by unfold iV;rw[if_neg hz]
    have Hb:=ah hb;have hok:3<=tk.len/\tk.len<=258/\1<=tk.dist/\tk.dist<=32768:=by rcases htk with h|h;exact absurd h.1 hz;exact h
    have SC:((tk.len:Int)==0)=false:=by rw[beq_eq_false_iff_ne];omega
    clear hb htk hz;go_wp2_with fail;refine (ZB g h3 _ tk.len tk.dist w4 rw4 (by omega) hok.1 hok.2.1 hok.2.2.1 hok.2.2.2).mono ?_;rintro e w5 ⟨rfl,t5⟩;have h5:=fC.next nx4 hg1 hh3 t5;go_wp2_with fail;go_roundw
    case rel=>exact ⟨k+1,by omega,by go_num,by rw[gX.out,Hb.out];exact h5⟩
    case measure=>simp[intOf];omega
  ·have hkn:k=nt:=by omega
   have htake:l.take k=l:=List.take_of_length_le (by rw[NT.out];omega);rw[htake]at rw3 hl3;have hlt2:¬((k:Int)<(nt:Int)):=(by omega);clear htake;go_wp2_with fail;refine (OT g h3 _ 256 w3 rw3 (by omega) (by omega)).mono ?_;rintro e w4 ⟨rfl,t4⟩;obtain ⟨h4,rw4,hh4,nx4⟩:=fC.next nx3 hg1 hh3 t4;rw[show bG l++aK 256=aI l from rfl]at rw4;have hl4:(aI l).length<=20000000:=by unfold aI;rw[List.length_append];have:=JE 256;omega
   clear t4 rw3;go_wp2_with fail;refine (XH g h4 _ w4 rw4 (by omega)).mono ?_;rintro e w5 ⟨k5,cap5,rfl,hk5,hk5',ho5,iD,nx5⟩;have hr5:=(hr1.nx (by decide) nx4).nx (by decide) nx5;go_wp2_with fail;refine (HS.out w5 hr5).mono ?_;rintro e w6 ⟨A6,c6,rfl,nx6⟩;have hall:=n1.tr ((nx4.tr nx5).tr nx6);have Il:=iD.nx (by decide) nx6;clear ho5 iD;obtain ⟨pf,hpf⟩:∃pf,pack (aI l)=pf:=⟨_,rfl⟩;rw[hpf]at Il hfew ⊢;have HPF:=ah hpf;clear hpf;have hlt4:¬((pf.length:Int)<(m:Int)):=(by omega);go_wp2_with fail;go_ret2;exact ⟨_,_,rfl,hall⟩
def Ru (W:World) (xs:List Nat) (e:Ending) (w':World):Prop:=
 ∃A' c' L,e=.returned (.tuple #[.slice A' L c',.int .i64 0])/\Nx W w'/\((aX xs).length<xs.length->L=(aX xs).length/\∃D',Rd w' D' 1 A' (aX xs).length (bl (aX xs)))/\(¬(aX xs).length<xs.length->xs.length<=L)
theorem Yr (xs:List Nat):(aW xs).length=xs.length+5:=by simp[aW,AV]
theorem qo (D:Nat->Prop) (A:Option Addr) (n c:Nat) (xs:List Nat) (W:World) (hr:Rd W D 1 A n (bl xs)) (ok:okB xs) (hl:xs.length=n) (hc:n<=c) (hn:n<=65536):
 Calls Tryz.prog 74 #[.slice A n c] W (Ru W xs):=by
 subst hl;by_cases h5:xs.length<=65535
 ·refine (BX D A c xs W hr ok hc h5).mono ?_
  rintro e w' ⟨A',c',rfl,hrd,n1⟩;exact ⟨A',c',_,rfl,n1,fun _=>⟨rfl,hrd⟩,fun h=>by omega⟩
 ·have h6:xs.length=65536:=by omega
  have hS:∀w:World,Rd w D 1 A xs.length (bl xs)->Calls Tryz.prog 109 #[.slice A xs.length c] w fun e w'=>∃A' c',e=.returned (.slice A' 65546 c')/\Nx w w':=fun w h=>by
   rw[h6]at h ⊢;exact qm D A c xs w h (by omega)
  have hs1:=Yr xs;by_cases hm:(pack (aI (aF xs xs.length 0))).length<65546
  ·refine (mJ D A c xs W hr ok (by omega) 65546 hm hS).mono ?_
   rintro e w' ⟨A',c',rfl,hrd,n1⟩;refine ⟨A',c',_,rfl,n1,fun h=>?_,fun h=>?_⟩
   ·have e1:aX xs=pack (aI (aF xs xs.length 0)):=by
     unfold aX at h ⊢;split at h
     ·next h2=>rw[if_pos h2]
     ·omega
    rw[e1];exact ⟨rfl,hrd⟩
   ·have:¬(pack (aI (aF xs xs.length 0))).length<xs.length:=fun h2=>h (by
     unfold aX;rw[if_pos (by omega)];exact h2)
    omega
  ·refine (z4R D A c xs W hr ok (by omega) 65546 hm hS).mono ?_
   rintro e w' ⟨A',c',rfl,n1⟩;refine ⟨A',c',_,rfl,n1,fun h=>?_,fun h=>by omega⟩;exfalso
   unfold aX at h;split at h<;>omega
end Go.Proofs.YtfljcllpmbnjaaaGreat
