/- Contracts and plain laws that the last text rests on. Conditions: each theorem states its own. -/
import Derived.Test.YtpakjclpjcngmaaGreatKbQ33
import Derived.Test.YtpakjclpjcngmaaGreatKbQ32
import Derived.Test.YtpakjclpjcngmaaGreatKbQ5
import Derived.Test.YtpakjclpjcngmaaGreatKbQ30
import Derived.Test.YtpakjclpjcngmaaGreatKbQ17
import Derived.Test.YtpakjclpjcngmaaGreatKbQ27
import Derived.Test.YtpakjclpjcngmaaGreatKbQ3
import Derived.Test.YtpakjclpjcngmaaGreatKbQ25
import Derived.Test.YtpakjclpjcngmaaGreatKbQ31
import Derived.Test.YtpakjclpjcngmaaGreatKbQ10
import Derived.Test.YtpakjclpjcngmaaGreatKbQ12
set_option maxRecDepth 100000
set_option maxHeartbeats 16000000
set_option linter.unusedVariables false
namespace Go.Proofs.YtpakjclpjcngmaaGreat
open Go.RowKit
def f_ (C:List (List Nat)) (k:Nat):List Nat:=(C.take k).flatMap aO
theorem YO {C:List (List Nat)} {k:Nat} (h:k<C.length):f_ C (k+1)=f_ C k++aO C[k]:=by
 unfold f_;rw[List.take_succ_eq_append_getElem h,List.flatMap_append];simp
theorem Ib:∀(C:List (List Nat)),(∀x∈C,x.length<=65600)->(C.flatMap aO).length<=65620 * C.length
 |[],_=>by simp
 |x::C,h=>by
  have h1:=Ib C fun y hy=>h y (List.mem_cons_of_mem _ hy);have h2:=h x List.mem_cons_self;have h3:=(z04 (n:=x.length) (by omega)).2;rw[List.flatMap_cons,List.length_append,List.length_cons];have h4:(aO x).length=(aj x.length).length+x.length:=by unfold aO;rw[List.length_append]
  omega
theorem zn {C:List (List Nat)} (k:Nat) (hk:k<=9) (h:∀x∈C,x.length<=65600):(f_ C k).length<=1000000:=by
 have h1:=Ib (C.take k) fun x hx=>h x (List.mem_of_mem_take hx);have h2:(C.take k).length<=9:=by rw[List.length_take];omega
 unfold f_;omega
theorem QH {kind:Nat} {xs:List Nat} (h:xs.length<=65536):(ay kind xs).length<=65600:=by
 have h1:=(z04 (n:=xs.length) (by omega)).2
 have h2:(gB xs).length<=xs.length:=by
  unfold gB;split
  ·omega
  ·exact Nat.le_refl _
 unfold ay lH;rw[Iz];simp only[List.length_append,List.length_cons,List.length_nil];omega
theorem QL {l:List aA} (h:dM l):∀x∈bZ l,x.length<=65600:=by
 have hI:∀zs:List Int,zs.length<=256->aJ zs=0->(ay 1 (aX zs)).length<=65600:=fun zs h1 h2=>QH (by have:=(z14 h2).2;omega);have hl:=h.few;intro x hx;unfold bZ at hx;simp only[List.mem_cons,List.not_mem_nil,or_false]at hx;rcases hx with rfl|rfl|rfl|rfl|rfl|rfl|rfl|rfl|rfl
 ·exact hI _ (by simpa using hl) h.time
 ·exact hI _ (by simpa using hl) h.maker
 ·exact hI _ (by simpa using hl) h.seq
 ·exact hI _ (by simpa using hl) h.place
 ·exact hI _ (by simpa using hl) h.kind
 ·exact QH h.words
 ·exact QH h.texts
 ·exact hI _ (by simpa using hl) h.value
 ·exact QH (by have:=VU (l:=l.map fun x=>x.null) (by simp;omega);omega)
theorem xR (l:List aA):(bZ l).length=9:=rfl
theorem qj {l:List aA} {k:Nat} (hk:k<5):(bZ l)[k]'(by rw[xR];omega)=ay 1 (aX (l.map (jk k))):=
 match k,hk with
 |0,_=>rfl
 |1,_=>rfl
 |2,_=>rfl
 |3,_=>rfl
 |4,_=>rfl
theorem Pv (l:List aA):(bZ l)[5]'(by rw[xR];omega)=ay 2 (aQ (l.map aT)):=rfl
theorem pre6 (l:List aA):f_ (bZ l) 6=f_ (bZ l) 5++aO (ay 2 (aQ (l.map aT))):=(YO (C:=bZ l) (k:=5) (by rw[xR];omega)).trans (by rw[Pv])
theorem cle6 {l:List aA} (h:dM l):(ay 2 (aQ (l.map aT))).length<=65600:=by
 have:=QL h _ (List.getElem_mem (show 5<(bZ l).length by rw[xR];omega));rw[Pv]at this;exact this
theorem Pq (l:List aA):(bZ l)[6]'(by rw[xR];omega)=ay 3 (aU (l.map fun x=>x.text)):=rfl
theorem pre7 (l:List aA):f_ (bZ l) 7=f_ (bZ l) 6++aO (ay 3 (aU (l.map fun x=>x.text))):=(YO (C:=bZ l) (k:=6) (by rw[xR];omega)).trans (by rw[Pq])
theorem cle7 {l:List aA} (h:dM l):(ay 3 (aU (l.map fun x=>x.text))).length<=65600:=by
 have:=QL h _ (List.getElem_mem (show 6<(bZ l).length by rw[xR];omega));rw[Pq]at this;exact this
theorem Po (l:List aA):(bZ l)[7]'(by rw[xR];omega)=ay 1 (aX (l.map fun x=>x.value)):=rfl
theorem pre8 (l:List aA):f_ (bZ l) 8=f_ (bZ l) 7++aO (ay 1 (aX (l.map fun x=>x.value))):=(YO (C:=bZ l) (k:=7) (by rw[xR];omega)).trans (by rw[Po])
theorem cle8 {l:List aA} (h:dM l):(ay 1 (aX (l.map fun x=>x.value))).length<=65600:=by
 have:=QL h _ (List.getElem_mem (show 7<(bZ l).length by rw[xR];omega));rw[Po]at this;exact this
theorem Pn (l:List aA):(bZ l)[8]'(by rw[xR];omega)=ay 4 (aP (l.map fun x=>x.null)):=rfl
theorem aad (l:List aA):f_ (bZ l) 9=f_ (bZ l) 8++aO (ay 4 (aP (l.map fun x=>x.null))):=(YO (C:=bZ l) (k:=8) (by rw[xR];omega)).trans (by rw[Pn])
theorem cle9 {l:List aA} (h:dM l):(ay 4 (aP (l.map fun x=>x.null))).length<=65600:=by
 have:=QL h _ (List.getElem_mem (show 8<(bZ l).length by rw[xR];omega));rw[Pn]at this;exact this
theorem dM.col {l:List aA} (h:dM l) {k:Nat} (hk:k<5):aJ (l.map (jk k))=0:=
 match k,hk with
 |0,_=>h.time
 |1,_=>h.maker
 |2,_=>h.seq
 |3,_=>h.place
 |4,_=>h.kind
theorem OH {k:Nat} (hk:k<5):∃F,TK k=.func F #[] #[]:=
 match k,hk with
 |0,_=>⟨_,rfl⟩
 |1,_=>⟨_,rfl⟩
 |2,_=>⟨_,rfl⟩
 |3,_=>⟨_,rfl⟩
 |4,_=>⟨_,rfl⟩
theorem z4V (l:List aA):aF l=f_ (bZ l) 9:=rfl
theorem Xe (l:List RV) (f:aA->Int):(l.map fun x=>Value.int .i64 (f x.row))=il ((l.map fun x=>x.row).map f):=by simp[il,Function.comp_def]
theorem Gf (l:List RV) (f:aA->ByteArray):(l.map fun x=>Value.string (f x.row))=b_ ((l.map fun x=>x.row).map f):=by simp[b_,Function.comp_def]
theorem TM (l:List RV) (f:aA->Bool):(l.map fun x=>Value.bool (f x.row))=lu ((l.map fun x=>x.row).map f):=by simp[lu,Function.comp_def]
theorem xH.tr {W w w':World} {g:Nat} {xs:List Nat} (h:xH W w g xs) (c:Nx w w'):xH W w' g xs:=by
 obtain ⟨v,hb,ho⟩:=h;exact ⟨v,hb.nx c,ho.tr c⟩
theorem xH.nx {W w:World} {g:Nat} {xs:List Nat} (h:xH W w g xs):Nx W w:=by
 obtain ⟨v,hb,ho⟩:=h;exact ho.nx
theorem ZC {W w0 w:World} {g:Nat} {xs ys:List Nat} {k cap:Nat} (h:xH W w0 g xs) (hW:W.heap.size<=g) (o:ak w0 w 5 1 (.slice (some ⟨k,0,none⟩) ys.length cap) ys.length (bl ys)) (er:Int) (h1:xs.length<=10000000) (h2:ys.length<=65600):
 Calls Tryz.prog 90 #[.slice (some ⟨k,0,none⟩) ys.length cap,.int .i64 er,.pointer (some ⟨g,0,none⟩)] w (Qo W w g (xs++aO ys)):=by
 obtain ⟨v,hb,ho⟩:=h;refine PX (D:=(· =k)) (hb.nx o.nx) (ho.tr o.nx) hW o.iy rfl (fun j e e2=>?_) er (by omega);have h3:=(ho.lt j e2).2;have h4:=(o.lt k (by simp[Value.ownBlock])).1;omega
theorem group_any {w:World} {D:Nat->Prop} {A:Option Addr} {n c:Nat} {l:List RV} (h:Rd w D 9 A n (iE l)) (hl:l.length=n) (hk:∀x∈l,x.ok w D/\x.row.few) (hg:dM (l.map fun x=>x.row)):
 Calls Tryz.prog 40 #[.slice A n c] w (Gives w 5 1 (aF (l.map fun x=>x.row)).length (bl (aF (l.map fun x=>x.row)))):=by
 have hn:n<=256:=by have:=hg.few;rw[List.length_map]at this;omega
 have hll:(l.map fun x=>x.row).length=n:=by rw[List.length_map];exact hl
 have jo:=ah (fun w' (c':Nx w w')=>h.nx (w':=w') (by decide) c');have xK:=ah (fun w' (c':Nx w w') x (hx:x∈l)=>show x.ok w' (fun _=>True)/\x.row.few from ⟨(hk x hx).1.ch c' (fun _ _ _ hf=>hf) fun _ _=>trivial,(hk x hx).2⟩)
 have HI0:∀k,k<5->∀b w',w'.cell? ⟨b,0,none⟩=some (TK k)->∀w2,Nx w' w2->∀x∈l,Calls Tryz.prog 166 #[dA x,.pointer (some ⟨b,0,none⟩)] w2 fun e w''=>e=.returned (Value.int .i64 (jk k x.row))/\Nx w2 w'':=fun k hk5 b w' hb w2 c2 x hx=>by
  have hb2:w2.cell? ⟨b,0,none⟩=some (TK k):=(c2.cell (p:=⟨b,0,none⟩) (World.block_lt_of_cell? w' _ hb)).trans hb;exact N_ hk5 x w2 b hb2
 have abC:Hid (∀k,k<5->∀w',Nx w w'->∀b,w'.cell? ⟨b,0,none⟩=some (TK k)->Calls Tryz.prog 98 #[.slice A n c,.func (.func 166) #[] #[.pointer (some ⟨b,0,none⟩)]] w' (Gives w' 2 1 n (l.map fun x=>Value.int .i64 (jk k x.row)))):=ah (fun k hk5 w' c' b hb=>by
  have h1:=h.nx (by decide) c';have h2:=HI0 k hk5 b w' hb;exact Nz (jk k) h1 hl (by omega) h2)
 clear HI0
 have HT0:∀w',Nx w w'->∀x∈l,Calls Tryz.prog 45 #[dA x] w' fun e w''=>e=.returned (Value.string (aT x.row))/\Nx w' w'':=fun w' c' x hx=>by
  have hx1:x.ok w' (fun _=>True):=(hk x hx).1.ch c' (fun _ _ _ hf=>hf) fun _ _=>trivial;exact uV x hx1 (hk x hx).2
 have abn:=ah (fun w' (c':Nx w w')=>Gy (c:=c) (w:=w') aT (h.nx (by decide) c') hl (by omega) (fun w2 c2 x hx=>HT0 w2 (c'.tr c2) x hx));clear HT0;have FI:=ah (fun w' (c':Nx w w')=>Nw (c:=c) (w:=w') (fun x=>x.text) (h.nx (by decide) c') hl (by omega) (fun w2 c2 x hx=>Um x w2));have abm:=ah (fun w' (c':Nx w w')=>Ny (c:=c) (w:=w') (fun x=>x.value) (h.nx (by decide) c') hl (by omega) (fun w2 c2 x hx=>Ul x w2));have abz:=ah (fun w' (c':Nx w w')=>ND (c:=c) (w:=w') (fun x=>x.null) (h.nx (by decide) c') hl (by omega) (fun w2 c2 x hx=>Uk x w2));simp only[Xe,Gf,TM]at abC abn FI abm abz;have HPI:=ah (fun f (he:aJ ((l.map fun x=>x.row).map f)=0) w' D' A' c' (hr:Rd w' D' 1 A' n (il ((l.map fun x=>x.row).map f)))=>z57 D' A' n c' _ w' hr (by rw[List.length_map];exact hll) he);have HE:=ah (fun k (hk5:k<5)=>hg.col hk5);have HEV:=ah hg.value;have HC5:=ah (fun k (hk5:k<5)=>(YO (C:=bZ (l.map fun x=>x.row)) (k:=k) (by rw[xR];omega)).trans (by rw[qj hk5]));have Zr:=ah (fun k (hk5:k<5)=>by have:=QL hg _ (List.getElem_mem (show k<(bZ (l.map fun x=>x.row)).length by rw[xR];omega));rw[qj hk5]at this;exact this);have CJ:=ah (fun k (hk9:k<=9)=>zn (C:=bZ (l.map fun x=>x.row)) k hk9 (QL hg));have HC6:=ah (pre6 (l.map fun x=>x.row));have HC7:=ah (pre7 (l.map fun x=>x.row));have HC8:=ah (pre8 (l.map fun x=>x.row));have HC9:=ah (aad (l.map fun x=>x.row));have HL6:=ah (cle6 hg);have HL7:=ah (cle7 hg);have HL8:=ah (cle8 hg);have HL9:=ah (cle9 hg);have hP0:f_ (bZ (l.map fun x=>x.row)) 0=[]:=rfl;rw[z4V];generalize f_ (bZ (l.map fun x=>x.row))=P at *;have hw1:=hg.words;have hw2:=Zx (l.map fun x=>x.row);have hw3:((l.map fun x=>x.row).map aT).length=n:=by rw[List.length_map];exact hll
 have ht1:=hg.texts;have ht2:=hg.text;have ht3:((l.map fun x=>x.row).map fun x=>x.text).length=n:=by rw[List.length_map];exact hll
 have hf3:((l.map fun x=>x.row).map fun x=>x.null).length=n:=by rw[List.length_map];exact hll
 clear hg;generalize (l.map fun x=>x.row).map aT=WD at *;generalize ((l.map fun x=>x.row).map fun x=>x.text)=TX at *;generalize ((l.map fun x=>x.row).map fun x=>x.null)=FL at *;have HPW:=ah (fun w' D' A' c' (hr:Rd w' D' 1 A' n (b_ WD)) hc=>z3V D' A' n c' WD w' hr hw3 (by omega) hw2 hc hw1);have Zo:=ah (fun w' D' A' c' (hr:Rd w' D' 1 A' n (b_ TX)) hc=>z3W D' A' n c' TX w' hr ht3 (by omega) ht2 hc ht1);have Yo:=ah (fun w' D' A' c' (hr:Rd w' D' 1 A' n (lu FL))=>z3X D' A' n c' FL w' hr hf3 (by omega));clear hw1 hw2 hw3 ht1 ht2 ht3 hf3;generalize (l.map fun x=>x.row)=R at *;have HPV:=ah (HPI.out (fun x=>x.value) HEV.out);generalize ay 2 (aQ WD)=C6 at *;generalize ay 3 (aU TX)=C7 at *;generalize ay 1 (aX (R.map fun x=>x.value))=C8 at *;generalize ay 4 (aP FL)=C9 at *;have HO0:Hid (xH w (w.alloc (.cells #[.slice none 0 0] 26)) w.heap.size (P 0)):=ah ⟨_,aG.new ..,by rw[hP0];exact ak.nil w _ _ 1 ((Ch.refl _ w).alloc _)⟩;clear hP0 h hk hll hl;go_enter Tryz.func40,Tryz.ntmps40;go_wp2_with fail;have HB0:Hid (aG ((w.alloc (.cells #[.slice none 0 0] 26)).alloc (.cells #[.func (.func 92) #[] #[],.func (.func 93) #[] #[],.func (.func 94) #[] #[],.func (.func 95) #[] #[],.func (.func 96) #[] #[]] 149)) (w.heap.size+1) 149 #[.func (.func 92) #[] #[],.func (.func 93) #[] #[],.func (.func 94) #[] #[],.func (.func 95) #[] #[],.func (.func 96) #[] #[]]):=ah (by have:=aG.new (w.alloc (.cells #[.slice none 0 0] 26)) 149 #[.func (.func 92) #[] #[],.func (.func 93) #[] #[],.func (.func 94) #[] #[],.func (.func 95) #[] #[],.func (.func 96) #[] #[]];simpa using this);have HO1:=ah (HO0.out.tr ((Ch.refl _ _).alloc (.cells #[.func (.func 92) #[] #[],.func (.func 93) #[] #[],.func (.func 94) #[] #[],.func (.func 95) #[] #[],.func (.func 96) #[] #[]] 149)));generalize (w.alloc (.cells #[.slice none 0 0] 26)).alloc (.cells #[.func (.func 92) #[] #[],.func (.func 93) #[] #[],.func (.func 94) #[] #[],.func (.func 95) #[] #[],.func (.func 96) #[] #[]] 149)=w1 at *;go_loopw [10] (fun i wr=>∃k:Nat,k<=5/\i=.int .i64 (k:Int)/\Hid (xH w wr w.heap.size (P k))/\Hid (aG wr (w.heap.size+1) 149 #[.func (.func 92) #[] #[],.func (.func 93) #[] #[],.func (.func 94) #[] #[],.func (.func 95) #[] #[],.func (.func 96) #[] #[]])) (fun i _=>5-(intOf i).toNat)
 case atStart=>exact ⟨0,Nat.zero_le _,rfl,HO1,HB0⟩
 case round=>
  obtain ⟨w4,rfl⟩:∃w4:World,w4=wr:=⟨_,rfl⟩;obtain ⟨k,hk5,rfl,HO,HB⟩:=hrel;by_cases hlt:k<5
  ·obtain ⟨F,hF⟩:=OH hlt
   have hcell:w4.cell? ((⟨w.heap.size+1,0,none⟩:Addr).add k)=some (TK k):=by
    obtain ⟨ad,u,e1,_,e2,e3⟩:=(Qa (xs:=[.func (.func 92) #[] #[],.func (.func 93) #[] #[],.func (.func 94) #[] #[],.func (.func 95) #[] #[],.func (.func 96) #[] #[]]) HB.out).at_ (k:=k) hlt;injection e1 with e1;subst e1;rw[e3,←e2];match k,hlt with
    |0,_=>rfl
    |1,_=>rfl
    |2,_=>rfl
    |3,_=>rfl
    |4,_=>rfl
   have hcell2:w4.cell? ⟨w.heap.size+1,k,none⟩=some (TK k):=by
    rw[←hcell];congr 1
    unfold Addr.add;split
    ·next e=>rw[e]
    ·simp
   have HIN:=ah (fun w'=>zM (TK k) F hF w');have HP1:=ah (HC5.out k hlt);have hpl:=CJ.out k (by omega);have hcl:=Zr.out k hlt;have HOF:=ah (abC.out k hlt);have HPU:=ah (HPI.out (jk k) (HE.out k hlt));clear hF;generalize TK k=fv at *;generalize il (R.map (jk k))=zs at *;generalize ay 1 (aX (R.map (jk k)))=ch at *;go_wp2_with fail;refine (HIN.out _).mono ?_;rintro e w5 ⟨rfl,e5⟩;have n5:Nx w4 w5:=by rw[e5];exact (Ch.refl _ _).alloc _
   have b5:w5.cell? ⟨w4.heap.size,0,none⟩=some fv:=by rw[e5];exact (aG.new w4 _ #[fv]).cell 0
   clear e5 hcell hcell2;have hcall:=HOF.out w5 (HO.out.nx.tr n5) w4.heap.size b5;go_wp2_with fail;refine hcall.mono ?_;rintro e w6 ⟨v6,rfl,o6⟩;obtain ⟨A6,c6,rfl, -, -⟩:=o6.form;clear hcall;have hcall:=HPU.out w6 _ A6 c6 o6.rd;go_wp2_with fail;refine hcall.mono ?_;rintro e w7 ⟨k7,kG,rfl,o7, -⟩;have HO6:=HO.out.tr (n5.tr o6.nx);have HK6:=ah (HB.out.nx ((n5.tr o6.nx).tr o7.nx));have lg:=ZC HO6 (Nat.le_refl _) o7 0 (by omega) hcl;clear hcall o6 b5;go_wp2_with fail;refine lg.mono ?_;rintro e w8 ⟨rfl,o8,kt⟩;rw[←HP1.out]at o8;have O8:=ah o8;have B8:=ah (kt _ _ _ (by decide) (by decide) HK6.out);clear o8 kt lg o7 n5 HO6;go_wp2_with fail;go_roundw
   case rel=>exact ⟨k+1,by omega,by go_num,O8,B8⟩
   case measure=>simp[intOf];omega
  ·have hk9:k=5:=by omega
   subst hk9;have hc6:=abn.out w4 HO.out.nx;go_wp2_with fail;refine hc6.mono ?_;rintro e wa6 ⟨va6,rfl,oa6⟩;obtain ⟨Aa6,ca6,rfl,hca6, -⟩:=oa6.form;clear hc6;have hc6:=HPW.out wa6 _ Aa6 ca6 oa6.rd hca6;go_wp2_with fail;refine hc6.mono ?_;rintro e wb6 ⟨kb6,capb6,rfl,ob6, -⟩;have hd6:=ZC (HO.out.tr oa6.nx) (Nat.le_refl _) ob6 0 (by have:=CJ.out 5 (by omega);omega) HL6.out;clear hc6 oa6;go_wp2_with fail;refine hd6.mono ?_;rintro e wc6 ⟨rfl,oc6, -⟩;rw[←HC6.out]at oc6;have OC6:=ah oc6;clear hd6 oc6 ob6;have hc7:=FI.out wc6 OC6.out.nx;go_wp2_with fail;refine hc7.mono ?_;rintro e wa7 ⟨va7,rfl,oa7⟩;obtain ⟨Aa7,ca7,rfl,hca7, -⟩:=oa7.form;clear hc7;have hc7:=Zo.out wa7 _ Aa7 ca7 oa7.rd hca7;go_wp2_with fail;refine hc7.mono ?_;rintro e wb7 ⟨kb7,capb7,rfl,ob7, -⟩;have hd7:=ZC (OC6.out.tr oa7.nx) (Nat.le_refl _) ob7 0 (by have:=CJ.out 6 (by omega);omega) HL7.out;clear hc7 oa7;go_wp2_with fail;refine hd7.mono ?_;rintro e wc7 ⟨rfl,oc7, -⟩;rw[←HC7.out]at oc7;have OC7:=ah oc7;clear hd7 oc7 ob7;have hc8:=abm.out wc7 OC7.out.nx;go_wp2_with fail;refine hc8.mono ?_;rintro e wa8 ⟨va8,rfl,oa8⟩;obtain ⟨Aa8,ca8,rfl,hca8, -⟩:=oa8.form;clear hc8;have hc8:=HPV.out wa8 _ Aa8 ca8 oa8.rd;go_wp2_with fail;refine hc8.mono ?_;rintro e wb8 ⟨kb8,capb8,rfl,ob8, -⟩;have hd8:=ZC (OC7.out.tr oa8.nx) (Nat.le_refl _) ob8 0 (by have:=CJ.out 7 (by omega);omega) HL8.out;clear hc8 oa8;go_wp2_with fail;refine hd8.mono ?_;rintro e wc8 ⟨rfl,oc8, -⟩;rw[←HC8.out]at oc8;have OC8:=ah oc8;clear hd8 oc8 ob8;have hc9:=abz.out wc8 OC8.out.nx;go_wp2_with fail;refine hc9.mono ?_;rintro e wa9 ⟨va9,rfl,oa9⟩;obtain ⟨Aa9,ca9,rfl,hca9, -⟩:=oa9.form;clear hc9;have hc9:=Yo.out wa9 _ Aa9 ca9 oa9.rd;go_wp2_with fail;refine hc9.mono ?_;rintro e wb9 ⟨kb9,capb9,rfl,ob9, -⟩;have hd9:=ZC (OC8.out.tr oa9.nx) (Nat.le_refl _) ob9 0 (by have:=CJ.out 8 (by omega);omega) HL9.out;clear hc9 oa9;go_wp2_with fail;refine hd9.mono ?_;rintro e wc9 ⟨rfl,oc9, -⟩;rw[←HC9.out]at oc9;have OC9:=ah oc9;clear hd9 oc9 ob9;obtain ⟨vz,bz,oz⟩:=OC9.out;have cz:wc9.cell? ⟨w.heap.size,0,none⟩=some vz:=bz.cell 0;have OZ:=ah oz;clear bz oz;obtain ⟨Az,cz',rfl, -, -⟩:=OZ.out.form;go_wp2_with fail;go_ret;exact ⟨_,rfl,OZ.out⟩
end Go.Proofs.YtpakjclpjcngmaaGreat
namespace Go.Proofs.YtpakjclpjcngmaaGreat
open Ps
def nD (b:List Nat):Nat->gY
 |0=>(0,0)
 |k+1=>(dn b (nD b k).1 (nD b k).2 262144).2
def eH (b:List Nat) (k:Nat):List Nat:=(dn b (nD b k).1 (nD b k).2 262144).1
structure aY where
 n:Nat->List Int
 ws:List ByteArray
 ts:List ByteArray
 fs:List Bool
def aY.rowOf (c:aY) (i:Nat) (l:List dL):aA:=⟨(c.n 4).getD i 0,(c.n 0).getD i 0,l,c.ts.getD i ByteArray.empty,(c.n 5).getD i 0,c.fs.getD i false,(c.n 1).getD i 0,(c.n 2).getD i 0,(c.n 3).getD i 0⟩
def aY.row (c:aY) (i:Nat):Option aA:=(jC (c.ws.getD i ByteArray.empty).data.toList).map (c.rowOf i)
def aY.rows (c:aY):Nat->Option (List aA)
 |0=>some []
 |k+1=>(c.rows k).bind fun l=>(c.row k).map fun x=>l++[x]
structure aY.fit (c:aY):Prop where
 n:∀k,k<6->(c.n k).length=c.fs.length
 pos:1<=c.fs.length
 few:c.fs.length<=256
 ws:c.ws.length=c.fs.length
 ts:c.ts.length=c.fs.length
open Classical in
noncomputable def aY.group (c:aY) (b:List Nat):Option (List aA):=
 if c.fit/\dh b.length (nD b 9).1 (nD b 9).2=0 then (c.rows c.fs.length).bind fun l=>if fP l=true/\aF l=b then some l else none else none
theorem aY.tJ {c:aY} {k:Nat} (h:c.rows k=none):∀d,c.rows (k+d)=none
 |0=>h
 |d+1=>by
  show (c.rows (k+d)).bind _=none
  rw[aY.tJ h d];rfl
theorem aY.MI {c:aY} {k m:Nat} (h:jC (c.ws.getD k ByteArray.empty).data.toList=none) (hk:k<m):c.rows m=none:=by
 have h1:c.rows (k+1)=none:=by
  unfold aY.rows aY.row;rw[h];cases c.rows k<;>rfl
 have:=aY.tJ h1 (m-(k+1));rwa [show k+1+(m-(k+1))=m by omega]at this
theorem aY.tK {c:aY} {k:Nat} {l:List aA} {s:List dL} (h:c.rows k=some l) (hs:jC (c.ws.getD k ByteArray.empty).data.toList=some s):c.rows (k+1)=some (l++[c.rowOf k s]):=by
 unfold aY.rows aY.row;rw[h,hs];rfl
/-! what was put is read -/
theorem sQ {C:List (List Nat)} (hC:∀x∈C,x.length<=262144):∀{k:Nat},k<=C.length->nD (C.flatMap aO) k=((f_ C k).length,0)/\(C.flatMap aO).drop (f_ C k).length=(C.drop k).flatMap aO/\(f_ C k).length<=(C.flatMap aO).length:=by
 have key:∀k,(C.flatMap aO)=f_ C k++(C.drop k).flatMap aO:=fun k=>by
  unfold f_;rw[←List.flatMap_append,List.take_append_drop]
 intro k;induction k with
 |zero=>intro _;exact ⟨rfl,by simp[f_],by simp[f_]⟩
 |succ k ih=>
  intro hk;obtain ⟨h1,h2,h3⟩:=ih (by omega);have hlt:k<C.length:=by omega
  have hd:(C.flatMap aO).drop (f_ C k).length=aj C[k].length++(C[k]++(C.drop (k+1)).flatMap aO):=by
   rw[h2,List.drop_eq_getElem_cons hlt,List.flatMap_cons];unfold aO;rw[List.append_assoc]
  obtain ⟨e1,e2,e3⟩:=z4Z hd h3 (hC _ (List.getElem_mem hlt)) (by decide)
  have e4:(f_ C (k+1)).length=(f_ C k).length+(aj C[k].length).length+C[k].length:=by
   rw[YO hlt,List.length_append];unfold aO;rw[List.length_append,Nat.add_assoc]
  refine ⟨?_,?_,?_⟩
  ·rw[nD,h1,e1,e4]
  ·rw[e4,e2]
  ·rw[e4];exact e3
theorem LM {C:List (List Nat)} (hC:∀x∈C,x.length<=262144) {k:Nat} (hk:k<C.length):eH (C.flatMap aO) k=C[k]:=by
 obtain ⟨h1,h2,h3⟩:=sQ hC (Nat.le_of_lt hk)
 have hd:(C.flatMap aO).drop (f_ C k).length=aj C[k].length++(C[k]++(C.drop (k+1)).flatMap aO):=by
  rw[h2,List.drop_eq_getElem_cons hk,List.flatMap_cons];unfold aO;rw[List.append_assoc]
 obtain ⟨e1, -, -⟩:=z4Z hd h3 (hC _ (List.getElem_mem hk)) (by decide);unfold eH;rw[h1,e1]
def CU (l:List aA):aY:=⟨fun k=>l.map (if k=5 then fun x=>x.value else jk k),l.map aT,l.map fun x=>x.text,l.map fun x=>x.null⟩
theorem Ef {x:aA} (h:aZ x.aB=true):jC (aT x).data.toList=some x.aB:=by
 unfold aT vT;rw[if_pos h];have:(dZ (textF x.aB)).data.toList=textF x.aB:=by simp[dZ]
 rw[this,Ee h]
theorem uS {l:List aA} (h:∀x∈l,r_ x):∀{k:Nat},k<=l.length->(CU l).rows k=some (l.take k)
 |0,_=>by simp[aY.rows]
 |k+1,hk=>by
  have hlt:k<l.length:=(by omega);have hx:=h l[k] (List.getElem_mem hlt);have hw:(CU l).ws.getD k ByteArray.empty=aT l[k]:=(by simp[CU,hlt]);rw[aY.tK (uS h (Nat.le_of_lt hlt)) (by rw[hw];exact Ef (Le hx.1).2.2.1),List.take_succ_eq_append_getElem hlt];congr 3
  simp[aY.rowOf,CU,jk,hlt]
theorem E_ {l:List aA} (h:fP l=true) (hg:dM l):(CU l).group (aF l)=some l:=by
 have hC:∀x∈bZ l,x.length<=262144:=fun x hx=>by have:=QL hg x hx;omega
 have e9:f_ (bZ l) 9=aF l:=by simp[f_,bZ,aF]
 have h9:=(sQ hC (k:=9) (by rw[xR];omega)).1;rw[e9]at h9;have hl:=(IB.1 h).1;have hfl:(CU l).fs.length=l.length:=by simp[CU]
 unfold aY.group
 rw[if_pos ⟨⟨fun k hk=>by simp[CU],by rw[hfl];exact hl,by rw[hfl];exact hg.few,by simp[CU],by simp[CU]⟩,by
  show dh (aF l).length (nD (aF l) 9).1 (nD (aF l) 9).2=0
  have:nD (aF l) 9=((aF l).length,0):=h9;rw[this];simp[dh]⟩,hfl,uS hg.row (Nat.le_refl _),List.take_length]
 simp only[Option.bind_some];rw[if_pos ⟨h,trivial⟩]
theorem z4N {l:List aA} (hg:dM l):okB (aF l):=by
 have hc:∀x∈bZ l,okB x:=by
  have hl:=hg.few;have hI:∀zs:List Int,zs.length<=256->aJ zs=0->okB (ay 1 (aX zs)):=fun zs h1 h2=>z3e (by decide) (YH h2) (by have:=(z14 h2).2;omega);intro x hx;unfold bZ at hx;simp only[List.mem_cons,List.not_mem_nil,or_false]at hx;rcases hx with rfl|rfl|rfl|rfl|rfl|rfl|rfl|rfl|rfl
  ·exact hI _ (by simpa using hl) hg.time
  ·exact hI _ (by simpa using hl) hg.maker
  ·exact hI _ (by simpa using hl) hg.seq
  ·exact hI _ (by simpa using hl) hg.place
  ·exact hI _ (by simpa using hl) hg.kind
  ·exact z3e (by decide) (z30 (by simp;omega) (Zx l)) hg.words
  ·exact z3e (by decide) (YP (by simp;omega) hg.text).1 hg.texts
  ·exact hI _ (by simpa using hl) hg.value
  ·exact z3e (by decide) (z3h (by simp;omega)) (by have:=VU (l:=l.map fun x=>x.null) (by simp;omega);omega)
 intro x hx;unfold aF at hx;obtain ⟨t,ht,hx⟩:=List.mem_flatMap.1 hx;have hl:=QL hg t ht;unfold aO at hx;rcases List.mem_append.1 hx with hx|hx
 ·exact jJ (by omega) x hx
 ·exact hc t ht x hx
theorem ZN {l:List aA} (hg:dM l) {k:Nat} (hk:k<9):eH (aF l) k=(bZ l)[k]'(by rw[xR];exact hk):=
 LM (C:=bZ l) (fun x hx=>by have:=QL hg x hx;omega) (by rw[xR];exact hk)
end Go.Proofs.YtpakjclpjcngmaaGreat
namespace Go.Proofs.YtpakjclpjcngmaaGreat
open Go.RowKit
def vw (W:World) (m0:Nat) (v:Value) (xs:List Value):Prop:=
 ∃A c,v=.slice A xs.length c/\xs.length<=c/\c<=maxLen/\Rd W (fun k=>m0<=k/\k<W.heap.size) 1 A xs.length xs
section
variable {W W' : World} {m0 : Nat} {v : Value} {xs : List Value}
theorem vw.nil (W:World) (m0:Nat):vw W m0 (.slice none 0 0) []:=⟨none,0,rfl,Nat.le_refl _,Nat.zero_le _,Rd.none_ _ _ _ _⟩
theorem vw.ch {S:Nat->Prop} (h:vw W m0 v xs) (c:Ch S W W') (hS:∀k,S k->k<m0):vw W' m0 v xs:=by
 obtain ⟨A,cp,e,h1,h2,h3⟩:=h;exact ⟨A,cp,e,h1,h2,(h3.ch (by decide) c fun k _ hk hs=>by have:=hS k hs;omega).more fun k hk=>⟨hk.1,Nat.lt_of_lt_of_le hk.2 c.size⟩⟩
theorem vw.nx (h:vw W m0 v xs) (c:Nx W W'):vw W' m0 v xs:=h.ch c fun _ hf=>hf.elim
theorem vw.own {e:TypeId} {n:Nat} (h:ak W W' e 1 v n xs) (hm:m0<=W.heap.size):vw W' m0 v xs:=by
 obtain ⟨A,c,rfl,h1,h2⟩:=h.form;have hl:xs.length=n:=by have:=h.rd.1;omega
 subst hl;exact ⟨A,c,rfl,h1,h2,h.rd.more fun k hk=>⟨by omega,hk.2.2⟩⟩
end
def tn (k:Nat):Nat:=if k=5 then 7 else k
structure VJ (b:List Nat) (ic:Nat->List Int->Prop) (wc tc:List ByteArray->Prop) (fc:List Bool->Prop):Prop where
 ints:∀k,k<6->∀(D:Nat->Prop) (A:Option Addr) (c:Nat) (W:World),Rd W D 1 A (eH b (tn k)).length (bl (eH b (tn k)))->(∀j,D j->j<W.heap.size)->(eH b (tn k)).length<=c->
  Calls Tryz.prog 61 #[.slice A (eH b (tn k)).length c] W fun e w'=>∃v l er,e=.returned (.tuple #[v,.int .i64 er])/\ak W w' 2 1 v l.length (il l)/\(∀z∈l,i64 z)/\ic k l
 words:∀(D:Nat->Prop) (A:Option Addr) (c:Nat) (W:World),Rd W D 1 A (eH b 5).length (bl (eH b 5))->(∀j,D j->j<W.heap.size)->(eH b 5).length<=c->
  Calls Tryz.prog 62 #[.slice A (eH b 5).length c] W fun e w'=>∃v l er,e=.returned (.tuple #[v,.int .i64 er])/\ak W w' 9 1 v l.length (b_ l)/\(∀s∈l,s.size<=1000000000)/\wc l
 texts:∀(D:Nat->Prop) (A:Option Addr) (c:Nat) (W:World),Rd W D 1 A (eH b 6).length (bl (eH b 6))->(∀j,D j->j<W.heap.size)->(eH b 6).length<=c->
  Calls Tryz.prog 63 #[.slice A (eH b 6).length c] W fun e w'=>∃v l er,e=.returned (.tuple #[v,.int .i64 er])/\ak W w' 9 1 v l.length (b_ l)/\(∀s∈l,s.size<=1000000000)/\tc l
 flags:∀(D:Nat->Prop) (A:Option Addr) (c:Nat) (W:World),Rd W D 1 A (eH b 8).length (bl (eH b 8))->(∀j,D j->j<W.heap.size)->(eH b 8).length<=c->
  Calls Tryz.prog 64 #[.slice A (eH b 8).length c] W fun e w'=>∃v l er,e=.returned (.tuple #[v,.int .i64 er])/\ak W w' 4 1 v l.length (lu l)/\fc l
structure xY (w:World) (g b4 bn m0:Nat) (A:Option Addr) (c:Nat) (b:List Nat) (k:Nat) (v:Nat->Value) (n:Nat->List Int) (W:World):Prop where
 cur:aW W (fun j=>w.heap.size<=j/\j<g) g A c b (nD b k).1 (nD b k).2
 r4:aG W b4 111 #[.pointer (some ⟨g,0,none⟩)]
 arr:aG W bn 115 #[v 0,v 1,v 2,v 3,v 4,v 5]
 cols:∀j,j<6->vw W m0 (v j) (il (n j))
 nx:Nx w W
 lay:w.heap.size<=g/\g<m0/\w.heap.size<=b4/\b4<m0/\w.heap.size<=bn/\bn<m0/\g≠b4/\g≠bn/\b4≠bn/\g<b4/\g<bn/\m0<=W.heap.size
section
variable {w W W' : World} {g b4 bn m0 k : Nat} {A : Option Addr} {c : Nat} {b : List Nat} {v : Nat → Value} {n : Nat → List Int}
theorem xY.kY (h:xY w g b4 bn m0 A c b k v n W) (t:Nx W W'):xY w g b4 bn m0 A c b k v n W':=by
 obtain ⟨h1,h2,h3,h4,h5,h6⟩:=h;have:=t.size;exact ⟨h1.nx t,h2.nx t,h3.nx t,fun j hj=>(h4 j hj).nx t,h5.trans t fun _ _ hf=>hf,by omega⟩
theorem xY.Vj (h:xY w g b4 bn m0 A c b k v n W) (t:dU W (fun j=>w.heap.size<=j/\j<g) g A c b (nD b (k+1)).1 (nD b (k+1)).2 W'):xY w g b4 bn m0 A c b (k+1) v n W':=by
 obtain ⟨h1,h2,h3,h4,h5,h6⟩:=h;obtain ⟨t1,t2⟩:=t;have:=t2.size;exact ⟨t1,h2.ch t2 (by omega),h3.ch t2 (by omega),fun j hj=>(h4 j hj).ch t2 fun i e=>by omega,h5.trans t2 fun i hi e=>by omega,by omega⟩
def upd {α:Type} (f:Nat->α) (i:Nat) (x:α):Nat->α:=fun j=>if j=i then x else f j
theorem Uy (f:Nat->Value) (i:Nat) (x:Value) (hi:i<6):(#[f 0,f 1,f 2,f 3,f 4,f 5]:Array Value).setIfInBounds i x= #[upd f i x 0,upd f i x 1,upd f i x 2,upd f i x 3,upd f i x 4,upd f i x 5]:=by
 rcases i with _|_|_|_|_|_|i
 all_goals first|rfl|omega
theorem xY.set (h:xY w g b4 bn m0 A c b k v n W) {i:Nat} (hi:i<6) {x:Value} {l:List Int} (hx:vw W m0 x (il l)):xY w g b4 bn m0 A c b k (upd v i x) (upd n i l) (W.setCell ⟨bn,i,none⟩ x):=by
 obtain ⟨h1,h2,h3,h4,h5,h6⟩:=h;have t:Ch (· =bn) W (W.setCell ⟨bn,i,none⟩ x):=Ch.setCell (Ch.refl (· =bn) _) (p:=⟨bn,i,none⟩) (fun _=>rfl) _;have z:(W.setCell ⟨bn,i,none⟩ x).heap.size=W.heap.size:=by simp
 refine ⟨h1.ch t (by omega) (fun j hj=>by omega),h2.ch t (by omega),?_,fun j hj=>?_,h5.trans t fun i hi e=>by omega,by omega⟩
 ·rw[←Uy v i x hi]
  exact h3.dK i x
 ·unfold upd
  split
  ·exact hx.ch t fun q e=>by omega
  ·exact (h4 j hj).ch t fun q e=>by omega
theorem xY.next (h:xY w g b4 bn m0 A c b k v n W):Calls Tryz.prog 59 #[.pointer (some ⟨b4,0,none⟩)] W fun en W'=>
 ∃A' c',en=.returned (.slice A' (eH b k).length c')/\Rd W' (fun j=>j<W'.heap.size) 1 A' (eH b k).length (bl (eH b k))/\(eH b k).length<=c'/\xY w g b4 bn m0 A c b (k+1) v n W'/\Ch (· =g) W W':=
 (OB h.cur h.r4).mono fun en W' ⟨A',c',h1,h2,h3,h4⟩=>⟨A',c',h1,h2.more fun j hj=>hj.2,h3,h.Vj h4,h4.2⟩
theorem xY.start {w2:World} (hc:aW w2 (fun j=>w.heap.size<=j/\j<g) g A c b 0 0) (t:Nx w w2) (l:w.heap.size<=g/\g<w2.heap.size):
 xY w g w2.heap.size (w2.heap.size+1) (w2.heap.size+1+1) A c b 0 (fun _=>.slice none 0 0) (fun _=>[]) ((w2.alloc (.cells #[.pointer (some ⟨g,0,none⟩)] 111)).alloc (.cells #[.slice none 0 0,.slice none 0 0,.slice none 0 0,.slice none 0 0,.slice none 0 0,.slice none 0 0] 115)):=by
 have n1:Nx w2 (w2.alloc (.cells #[.pointer (some ⟨g,0,none⟩)] 111)):=(Ch.refl (fun _=>False) w2).alloc _;have n2:Nx (w2.alloc (.cells #[.pointer (some ⟨g,0,none⟩)] 111)) ((w2.alloc (.cells #[.pointer (some ⟨g,0,none⟩)] 111)).alloc (.cells #[.slice none 0 0,.slice none 0 0,.slice none 0 0,.slice none 0 0,.slice none 0 0,.slice none 0 0] 115)):=(Ch.refl (fun _=>False) _).alloc _;have z1:(w2.alloc (.cells #[.pointer (some ⟨g,0,none⟩)] 111)).heap.size=w2.heap.size+1:=by simp
 have z2:((w2.alloc (.cells #[.pointer (some ⟨g,0,none⟩)] 111)).alloc (.cells #[.slice none 0 0,.slice none 0 0,.slice none 0 0,.slice none 0 0,.slice none 0 0,.slice none 0 0] 115)).heap.size=w2.heap.size+1+1:=by simp
 have B7:=aG.new (w2.alloc (.cells #[.pointer (some ⟨g,0,none⟩)] 111)) 115 #[.slice none 0 0,.slice none 0 0,.slice none 0 0,.slice none 0 0,.slice none 0 0,.slice none 0 0];rw[z1]at B7;exact ⟨(hc.nx n1).nx n2,(aG.new w2 _ _).nx n2,B7,fun j _=>vw.nil _ _,(t.trans n1 (fun _ _ hf=>hf)).trans n2 (fun _ _ hf=>hf),by omega⟩
theorem xY.cell (h:xY w g b4 bn m0 A c b k v n W) {i:Nat} (hi:i<6):W.cell? ⟨bn,i,none⟩=some (v i):=by
 rw[h.arr.cell i];rcases i with _|_|_|_|_|_|i
 all_goals first|rfl|omega
end
def vF (w:World) (o:Option (List aA)) (e:Ending) (w':World):Prop:=match o with
 |none=>e=.returned (.tuple #[.slice none 0 0,.int .i64 4])/\Nx w w'
 |some l=>∃(zs:List RV) (A:Option Addr) (c:Nat),e=.returned (.tuple #[.slice A zs.length c,.int .i64 0])/\zs.map (fun x=>x.row)=l/\fJ w w' (.slice A zs.length c) zs/\(∀z∈zs,z.row.few)
end Go.Proofs.YtpakjclpjcngmaaGreat
namespace Go.Proofs.YtpakjclpjcngmaaGreat
theorem z2s {kind n:Nat} {xs:List Nat} (h:xs.length<=n) (h2:n<=65536):(aO (ay kind xs)).length<=n+74:=by
 have h1:=(z04 (n:=xs.length) (by omega)).2;have h3:=(z04 (n:=(ay kind xs).length) (by have:=QH (kind:=kind) (xs:=xs) (by omega);omega)).2
 have h2:(gB xs).length<=xs.length:=by
  unfold gB;split
  ·omega
  ·exact Nat.le_refl _
 unfold aO;rw[List.length_append];unfold ay lH at *;rw[Iz]at *;simp only[List.length_append,List.length_cons,List.length_nil]at *;omega
theorem z4n {l:List ByteArray} (hl:l.length<=256) (hs:∀s∈l,s.size<=242):(aQ l).length<=4+248 * l.length:=by
 have h1:=Iw l;have h2:=z2Q (all:=bM l) fun s h=>hs s (yt.1 h);have h3:=oh (bM l) (by omega) _ l (Nat.le_refl _) hl;have h4:=z12 (n:=(bM l).length) (by omega);have h5:=z12 (n:=l.length) (by omega);unfold aQ;simp only[List.length_append];omega
theorem z4r {l:List ByteArray} (hl:l.length<=256) (hs:∀s∈l,s.size<=200):(aU l).length<=2+202 * l.length:=by
 have h1:=z4t hs;have h2:=z12 (n:=l.length) (by omega);unfold aU;simp only[List.length_append];omega
theorem Aj {l:List aA} (h:dM l):(aF l).length<=1038+510 * l.length:=by
 have hl:=h.few;have hI:∀f:aA->Int,aJ (l.map f)=0->(aO (ay 1 (aX (l.map f)))).length<=11+10 * l.length+74:=fun f h2=>z2s (by have:=(z14 h2).2;rw[List.length_map]at this;exact this) (by omega);have a0:=hI _ h.time;have a1:=hI _ h.maker;have a2:=hI _ h.seq;have a3:=hI _ h.place;have a4:=hI _ h.kind;have a5:=hI _ h.value
 have a6:(aO (ay 2 (aQ (l.map aT)))).length<=4+248 * l.length+74:=z2s (by
  have:=z4n (l:=l.map aT) (by rw[List.length_map];exact hl) fun s hs=>by
   obtain ⟨x, -,rfl⟩:=List.mem_map.1 hs;exact z11 x
  rw[List.length_map]at this;exact this) (by omega)
 have a7:(aO (ay 3 (aU (l.map fun x=>x.text)))).length<=2+202 * l.length+74:=z2s (by
  have:=z4r (l:=l.map fun x=>x.text) (by rw[List.length_map];exact hl) fun s hs=>by
   obtain ⟨x,hx,rfl⟩:=List.mem_map.1 hs;exact (Le (h.row x hx).1).2.2.2.2.2.2
  rw[List.length_map]at this;exact this) (by omega)
 have a8:(aO (ay 4 (aP (l.map fun x=>x.null)))).length<=300+74:=z2s (VU (l:=l.map fun x=>x.null) (by rw[List.length_map];omega)) (by omega);unfold aF bZ;simp only[List.flatMap_cons,List.flatMap_nil,List.length_append,List.length_nil];omega
theorem z3F:∀{gs:List (List aA)},(∀g∈gs,dM g)->(aN gs).length<=1038 * gs.length+510 * gs.flatten.length
 |[],_=>Nat.le_refl _
 |g::gs,h=>by
  have h1:=z3F (gs:=gs) fun x hx=>h x (List.mem_cons_of_mem _ hx);have h2:=Aj (h g List.mem_cons_self);unfold aN at *;rw[List.flatMap_cons,List.length_append,List.length_cons,List.flatten_cons,List.length_append];omega
end Go.Proofs.YtpakjclpjcngmaaGreat
