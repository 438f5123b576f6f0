/- Contracts and plain laws that the last text rests on. Conditions: each theorem states its own. -/
import Derived.Test.YtfljcllpmbnjaaaGreatKdQ23
set_option maxRecDepth 100000
set_option maxHeartbeats 16000000
set_option linter.unusedVariables false
namespace Go.Proofs.YtfljcllpmbnjaaaGreat
open Go.RowKit
def eG (l:List ByteArray):List Nat:=l.flatMap fun s=>aj s.size
def dF (l:List ByteArray):List Nat:=l.flatMap iU
def bC (l:List ByteArray):List Nat:=aj l.length++eG l++dF l
theorem Ye {l:List ByteArray} {k:Nat} (h:k<l.length):eG (l.drop k)=aj (l.getD k ByteArray.empty).size++eG (l.drop (k+1)):=by
 have e0:l.getD k ByteArray.empty=l[k]:=by rw[List.getD,List.getElem?_eq_getElem h];rfl
 rw[List.drop_eq_getElem_cons h,e0];unfold eG;rw[List.flatMap_cons]
theorem Vk {l:List ByteArray} {k:Nat} (h:k<l.length):dF (l.drop k)=iU (l.getD k ByteArray.empty)++dF (l.drop (k+1)):=by
 have e0:l.getD k ByteArray.empty=l[k]:=by rw[List.getD,List.getElem?_eq_getElem h];rfl
 rw[List.drop_eq_getElem_cons h,e0];unfold dF;rw[List.flatMap_cons]
theorem O_:∀{l:List ByteArray},(∀s∈l,s.size<=1024)->okB (eG l)/\(eG l).length<=10 * l.length:=by
 intro l;induction l with
 |nil=>intro _;exact ⟨fun x hx=>by simp[eG]at hx,by simp[eG]⟩
 |cons s l ih=>
  intro h;obtain ⟨h1,h2⟩:=ih fun t ht=>h t (by simp[ht]);have h3:=h s (by simp);have h4:=(z07 (n:=s.size) (by omega)).2;have e:eG (s::l)=aj s.size++eG l:=(by simp[eG]);rw[e,List.length_append,List.length_cons];exact ⟨JD (z14 (by omega)) h1,by omega⟩
theorem Qg:∀{l:List ByteArray},(∀s∈l,s.size<=1024)->okB (dF l)/\(dF l).length<=1024 * l.length:=by
 intro l;induction l with
 |nil=>intro _;exact ⟨fun x hx=>by simp[dF]at hx,by simp[dF]⟩
 |cons s l ih=>
  intro h;obtain ⟨h1,h2⟩:=ih fun t ht=>h t (by simp[ht]);have h3:=h s (by simp);have e:dF (s::l)=iU s++dF l:=(by simp[dF]);rw[e,List.length_append,List.length_cons,kJ];exact ⟨JD (JL s) h1,by omega⟩
theorem QI {l:List ByteArray} (hl:l.length<=2048) (hs:∀s∈l,s.size<=1024):okB (bC l)/\(bC l).length<=100000000/\0<(bC l).length:=by
 obtain ⟨h1,h2⟩:=O_ hs;obtain ⟨h3,h4⟩:=Qg hs;have h5:=z07 (n:=l.length) (by omega);unfold bC;refine ⟨JD (JD (z14 (by omega)) h1) h3,?_⟩;rw[List.length_append,List.length_append];omega
theorem z3h (D:Nat->Prop) (A:Option Addr) (n c:Nat) (l:List ByteArray) (W:World) (hr:Rd W D 1 A n (bW l)) (hl:l.length=n) (hn:n<=2048) (hs:∀s∈l,s.size<=1024) (hc:n<=c):
 Calls Tryz.prog 13 #[.slice A n c] W (jc W 3 (bC l)):=by
 obtain ⟨i0,hi0,hz0,hz1,hz2⟩:=info_parts Tryz.info5;have htl:=Yg D A n c l W hr hl hn
 have hno:(l.any fun s=>decide (1024<s.size))=false:=by
  rw[List.any_eq_false];intro s h;have:=hs s h;simpa using this
 rw[hno]at htl;have jk:=ah htl;obtain ⟨Vw,hC,hpos⟩:=QI (by omega) hs;have xg:bC l=aj l.length++eG l++dF l:=rfl
 have hsz:∀k,k<l.length->(l.getD k ByteArray.empty).size<=1024:=fun k hk=>by
  rw[List.getD,List.getElem?_eq_getElem hk];exact hs _ (List.getElem_mem hk)
 have HC:=ah xg;have wW:=ah hsz;have hpu:=fun (v:Nat) (w:World) (hv:v<18446744073709551616)=>Uf v w hv;have pR:=ah hpu;have iY:∀v,v<18446744073709551616->1<=(aj v).length/\(aj v).length<=10:=fun v hv=>z07 hv;have Hpl:=ah iY;clear hpu iY htl xg hsz hno hs;generalize bC l=T at *;have Hl:=ah hl;rw[hl]at HC wW;clear hl;go_enter Tryz.func13,Tryz.ntmps13;go_wp2_with fail;with_reducible refine jk.out.mono ?_
 rintro e w1 ⟨rfl,rfl⟩;have hcall:=pR.out n W (by omega);go_wp2_with fail;with_reducible refine hcall.mono ?_
 rintro e w3 ⟨k3,cap3,rfl,o3,hk3,hk3',hc3,_⟩;have hO:dJ W w3 (.slice (some ⟨k3,0,none⟩) (aj n).length cap3) T (eG (l.drop 0)++dF l):=⟨aj n,o3,by rw[HC.out,List.drop_zero];simp only[List.append_assoc]⟩;have HO:=ah hO;clear hO o3 hcall;go_wp2_with fail;go_loopw [4,17] (fun v i wr=>∃k:Nat,k<=n/\i=.int .i64 (k:Int)/\dJ W wr v T (eG (l.drop k)++dF l)) (fun _ i _=>n-(intOf i).toNat)
 case atStart=>exact ⟨0,Nat.zero_le _,rfl,HO.out⟩
 case round=>
  clear HO;obtain ⟨w4,rfl⟩:∃w4:World,w4=wr:=⟨_,rfl⟩;obtain ⟨k,hk,rfl,hout⟩:=hrel;obtain ⟨X,oX,eX,lX⟩:=hout.len;by_cases hlt:k<n
  ·have e1:=Ye (l:=l) (k:=k) (by rw[Hl.out];exact hlt)
   have hs1:=wW.out k hlt;obtain ⟨ad,rfl,_,hcell⟩:=(hr.nx (by decide) oX.nx).2 (by omega);have hc0:=hcell k _ (yj (by rw[Hl.out];exact hlt));rw[e1]at eX;have E:=ah eX;have hlen:=congrArg List.length eX;simp only[List.length_append]at hlen;clear hcell e1 eX hout lX;generalize l.getD k ByteArray.empty=s at *;have hp:=Hpl.out s.size (by omega);have hcall:=pR.out s.size w4 (by omega);have hlb:X.length+(aj s.size).length<=100000000:=(by omega);clear hlen;go_wp2_with fail;with_reducible refine hcall.mono ?_
   rintro e w5 ⟨k5,cap5,rfl,o5,hk5,hk5',hc5,_⟩;have oX5:=oX.tr o5.nx;have r5:=o5.fM;clear o5 oX hcall;have fin:∀v w,au W w 5 1 v (X.length+(aj s.size).length) (bl X++bl (aj s.size))->dJ W w v T (eG (l.drop (k+1))++dF l):=fun v w o=>⟨X++aj s.size,by rw[List.length_append,show bl (X++aj s.size)=bl X++bl (aj s.size) by simp[bl]];exact o,by rw[←E.out];simp only[List.append_assoc]⟩;have Fin:=ah fin;clear fin E;go_wp2_with (at_builtin;(refine z01 rfl (.tmp 21) (.tmp 25) _ rfl 5 i0 _ 1 1 Tryz.underlying27 hi0 hz0 hz1 hz2 rfl (by omega) rfl oX5 _ (some ⟨k5,0,none⟩) (aj s.size).length cap5 (bl (aj s.size)) rfl r5 (iP _) (by simp only[maxLen];omega) (by omega) ?_;intro v7 w7 o7 m7;have Ho7:=ah (Fin.out v7 w7 o7);clear o7 m7))
   go_roundw
   case rel=>exact ⟨k+1,by omega,by go_num,Ho7.out⟩
   case measure=>simp[intOf];omega
  ·obtain rfl:n=k:=by omega
   have e1:eG (l.drop n)=[]:=by
    rw[List.drop_of_length_le (by rw[Hl.out];omega)];rfl
   have hO2:dJ W w4 u4 T (dF (l.drop 0)):=⟨X,oX,by rw[List.drop_zero,←eX,e1];rfl⟩;have HO2:=ah hO2;clear e1 eX hout lX hO2 oX;go_wp2_with fail;go_loopw [4,30] (fun v i wr=>∃k:Nat,k<=n/\i=.int .i64 (k:Int)/\dJ W wr v T (dF (l.drop k))) (fun _ i _=>n-(intOf i).toNat)
   case atStart=>exact ⟨0,Nat.zero_le _,rfl,HO2.out⟩
   case round=>
    clear HO2;obtain ⟨w8,rfl⟩:∃w8:World,w8=wr:=⟨_,rfl⟩;obtain ⟨k,hk,rfl,hout⟩:=hrel;obtain ⟨Y,oY,eY,lY⟩:=hout.len;by_cases hlt:k<n
    ·have e1:=Vk (l:=l) (k:=k) (by rw[Hl.out];exact hlt)
     have hs1:=wW.out k hlt;obtain ⟨ad,rfl,_,hcell⟩:=(hr.nx (by decide) oY.nx).2 (by omega);have hc0:=hcell k _ (yj (by rw[Hl.out];exact hlt));rw[e1]at eY;have E:=ah eY;have hlen:=congrArg List.length eY;simp only[List.length_append,kJ]at hlen;clear hcell e1 eY hout lY;generalize l.getD k ByteArray.empty=s at *;have hlb:Y.length+s.size<=100000000:=(by omega);clear hlen;have fin:∀v w,au W w 5 1 v (Y.length+s.size) (bl (Y++iU s))->dJ W w v T (dF (l.drop (k+1))):=fun v w o=>⟨Y++iU s,by rw[List.length_append,kJ];exact o,by rw[←E.out];simp only[List.append_assoc]⟩;have Fin:=ah fin;clear fin E;go_wp2_with (at_builtin;(refine Yn rfl (.tmp 34) (.tmp 35) _ 9 rfl 5 i0 Tryz.underlying27 Tryz.underlying9 hi0 hz0 hz1 hz2 rfl oY s rfl (by simp only[maxLen];omega) (by omega) ?_;intro v8 w8 o8;have Ho8:=ah (Fin.out v8 w8 o8);clear o8))
     go_roundw
     case rel=>exact ⟨k+1,by omega,by go_num,Ho8.out⟩
     case measure=>simp[intOf];omega
    ·obtain rfl:n=k:=by omega
     have e1:dF (l.drop n)=[]:=by
      rw[List.drop_of_length_le (by rw[Hl.out];omega)];rfl
     rw[e1,List.append_nil]at eY;subst eY;obtain ⟨g,cap,hv,hg,hgl⟩:=oY.own.form hpos;subst hv;have hcap:=z05 oY.own;obtain ⟨_,_,hv2,hcp,_⟩:=hcap;injection hv2 with hv1 _ hv3;subst hv1 hv3;have nY:=oY.nx;have hch:Calls Tryz.prog 33 #[.int .u8 3,.slice (some ⟨g,0,none⟩) Y.length cap] w8 (jc w8 3 Y):=tu (fun j=>j=g) (some ⟨g,0,none⟩) Y.length cap 3 Y w8 oY.fM (fun j e=>by omega) Vw rfl hcp (by omega);have Hch:=ah (hch.mono fun _ _ h=>jc.later nY h);clear hch e1;go_wp2_with fail;with_reducible refine Hch.out.mono ?_
     rintro e w9 h9;by_cases hs:Y.length<=65536
     ·obtain ⟨k9,Em,rfl,o9,hc9⟩:=h9.1 hs
      go_wp2_with fail;go_ret2;exact ⟨fun _=>⟨k9,Em,rfl,o9,hc9⟩,fun h=>by omega⟩
     ·obtain ⟨rfl,n9⟩:=h9.2 (by omega)
      go_wp2_with fail;go_ret2;exact ⟨fun h=>by omega,fun _=>⟨rfl,n9⟩⟩
theorem wG (D:Nat->Prop) (A:Option Addr) (n c:Nat) (l:List ByteArray) (W:World) (hr:Rd W D 1 A n (bW l)) (hl:l.length=n) (hn:n<=2048) (hs:∀s∈l,s.size<=1024) (hc:n<=c) (hC:(bC l).length<=65536):
 Calls Tryz.prog 13 #[.slice A n c] W (z2b W (aC 3 (bC l))):=
 (z3h D A n c l W hr hl hn hs hc).mono fun _ _ h=>h.1 hC
theorem z4t (D:Nat->Prop) (A:Option Addr) (n c:Nat) (l:List ByteArray) (W:World) (hr:Rd W D 1 A n (bW l)) (hl:l.length=n) (hn:n<=2048) (hs:¬∀s∈l,s.size<=1024):
 Calls Tryz.prog 13 #[.slice A n c] W fun e w'=>e=.returned (.tuple #[.slice none 0 0,.int .i64 5])/\Nx W w':=by
 have htl:=Yg D A n c l W hr hl hn
 have hyes:(l.any fun s=>decide (1024<s.size))=true:=by
  rw[List.any_eq_true];apply Classical.byContradiction
  intro h;refine hs fun s hm=>Classical.byContradiction fun h2=>h ⟨s,hm,?_⟩;rw[decide_eq_true_iff];omega
 rw[hyes]at htl;have jk:=ah htl;clear htl hr hs hl;go_enter Tryz.func13,Tryz.ntmps13;go_wp2_with fail;with_reducible refine jk.out.mono ?_
 rintro e w1 ⟨rfl,rfl⟩;go_wp2_with fail;go_ret2;exact ⟨rfl,Ch.refl _ _⟩
def qZ (l:List ByteArray):Prop:=l.Pairwise fun a b=>a.data.toList<b.data.toList
theorem Tt {a b:ByteArray} (h:a.data.toList=b.data.toList):a=b:=by
 rw[←oM a,←oM b,h]
theorem yA:∀{a b:List ByteArray},qZ a->qZ b->(∀x,x∈a↔x∈b)->a=b:=by
 intro a;induction a with
 |nil=>
  intro b _ _ h;cases b with
  |nil=>rfl
  |cons y b=>exact absurd ((h y).2 (by simp)) (by simp)
 |cons x a ih=>
  intro b ha hb h;cases b with
  |nil=>exact absurd ((h x).1 (by simp)) (by simp)
  |cons y b=>
   have ha1:=List.pairwise_cons.1 ha;have hb1:=List.pairwise_cons.1 hb
   have hxy:x=y:=by
    rcases List.mem_cons.1 ((h x).1 (by simp)) with e|e
    ·exact e
    ·rcases List.mem_cons.1 ((h y).2 (by simp)) with e2|e2
     ·exact e2.symm
     ·exact absurd (List.lt_trans (hb1.1 x e) (ha1.1 y e2)) (List.lt_irrefl _)
   subst hxy;congr 1
   refine ih ha1.2 hb1.2 fun z=>⟨fun hz=>?_,fun hz=>?_⟩
   ·rcases List.mem_cons.1 ((h z).1 (List.mem_cons_of_mem _ hz)) with e|e
    ·subst e;exact absurd (ha1.1 z hz) (List.lt_irrefl _)
    ·exact e
   ·rcases List.mem_cons.1 ((h z).2 (List.mem_cons_of_mem _ hz)) with e|e
    ·subst e;exact absurd (hb1.1 z hz) (List.lt_irrefl _)
    ·exact e
theorem zK {L:List ByteArray} {w:ByteArray} {j:Nat} (hL:qZ L) (hj:j<=L.length) (h1:∀i,i<j->(L.getD i ByteArray.empty).data.toList<w.data.toList)
 (h2:j<L.length->¬(L.getD j ByteArray.empty).data.toList<w.data.toList/\L.getD j ByteArray.empty≠w):qZ (L.take j++[w]++L.drop j)/\∀x,x∈L.take j++[w]++L.drop j↔x∈L∨x=w:=by
 have hgt:∀y∈L.drop j,w.data.toList<y.data.toList:=fun y hy=>by
  obtain ⟨i,hi,rfl⟩:=List.mem_iff_getElem.1 hy;rw[List.length_drop]at hi;have hjl:j<L.length:=by omega
  obtain ⟨h3,h4⟩:=h2 hjl;have e0:L.getD j ByteArray.empty=L[j]:=by rw[List.getD,List.getElem?_eq_getElem hjl];rfl
  rw[e0]at h3 h4
  have hw:w.data.toList<L[j].data.toList:=by
   have hle:w.data.toList<=L[j].data.toList:=List.not_lt.1 h3;by_cases h5:w.data.toList<L[j].data.toList
   ·exact h5
   ·exact absurd (Tt (List.le_antisymm (List.not_lt.1 h5) hle)) h4
  rw[List.getElem_drop];by_cases hi0:i=0
  ·subst hi0;simpa using hw
  ·exact List.lt_trans hw (List.pairwise_iff_getElem.1 hL j (j+i) hjl (by omega) (by omega))
 have hlt:∀y∈L.take j,y.data.toList<w.data.toList:=fun y hy=>by
  obtain ⟨i,hi,rfl⟩:=List.mem_iff_getElem.1 hy;rw[List.length_take]at hi;have:=h1 i (by omega);rw[List.getD,List.getElem?_eq_getElem (by omega)]at this;rw[List.getElem_take];exact this
 constructor
 ·unfold qZ
  rw[List.append_assoc,List.pairwise_append];refine ⟨List.Pairwise.sublist (List.take_sublist j L) hL,?_,fun a ha b hb=>?_⟩
  ·rw[List.singleton_append,List.pairwise_cons]
   exact ⟨hgt,List.Pairwise.sublist (List.drop_sublist j L) hL⟩
  ·rw[List.singleton_append,List.mem_cons]at hb
   rcases hb with rfl|hb
   ·exact hlt a ha
   ·exact List.lt_trans (hlt a ha) (hgt b hb)
 ·intro x
  rw[List.mem_append,List.mem_append,List.mem_singleton]
  have:x∈L↔x∈L.take j∨x∈L.drop j:=by
   conv=>lhs;rw[←List.take_append_drop j L]
   rw[List.mem_append]
  rw[this];constructor
  ·rintro ((h|h)|h)
   ·exact .inl (.inl h)
   ·exact .inr h
   ·exact .inl (.inr h)
  ·rintro ((h|h)|h)
   ·exact .inl (.inl h)
   ·exact .inr h
   ·exact .inl (.inr h)
theorem nK (a b:ByteArray):Op.bytesLess a.toList b.toList=decide (a.data.toList<b.data.toList):=by
 rw[Proofs.bytesLess_eq,Lib.toList_data,Lib.toList_data]
theorem JV {l:List ByteArray} {k:Nat} (h:k<l.length) (x:ByteArray):x∈l.take (k+1)↔x∈l.take k∨x=l.getD k ByteArray.empty:=by
 rw[take_snoc h,List.mem_append,List.mem_singleton]
theorem kY (ss:List ByteArray):∀u∈bW ss,u.oneCell'=true:=by
 intro u hu;simp only[bW,List.mem_map]at hu;obtain ⟨x,_,rfl⟩:=hu;rfl
theorem KX {w:World} {base:Nat} {e:TypeId} {size n c:Nat} {A:Option Addr} {xs:List Value} (h:w.ownsRow base e size (.slice A n c) n xs) (hc:c≠n):∃b,A=some b:=by
 obtain ⟨h1,h2⟩:=h;rcases h2 with h2|⟨g',cap,cur,hv,_⟩
 ·obtain ⟨hv,hn⟩:=h2
  injection hv with e1 e2 e3;omega
 ·injection hv with hA
  exact ⟨_,hA⟩
theorem KQ (D:Nat->Prop) (A:Option Addr) (n c:Nat) (l:List ByteArray) (W:World) (hr:Rd W D 1 A n (bW l)) (hl:l.length=n) (hn:n<=2048):
 Calls Tryz.prog 48 #[.slice A n c] W fun e w'=>∃v,e=.returned v/\au W w' 9 1 v (bP l).length (bW (bP l)):=by
 obtain ⟨i0,hi0,hz0,hz1,hz2⟩:=info_parts Tryz.gW;have Hl:=ah hl;have HU:Hid (∀L,qZ L->(∀x,x∈L↔x∈l)->L=bP l):=ah fun L h1 h2=>yA h1 (tC l) fun x=>(h2 x).trans AZ.symm;clear hl;have h0:=au.lit W W 9 (Ch.refl _ W) 1;go_enter Tryz.func48,Tryz.ntmps48;go_wp2_with fail;go_loopw [3,11] (fun v i wr=>∃(k:Nat) (L:List ByteArray),k<=n/\i=.int .i64 (k:Int)/\L.length<=k/\au W wr 9 1 v L.length (bW L)/\Hid (qZ L/\∀x,x∈L↔x∈l.take k)) (fun _ i _=>n-(intOf i).toNat)
 case atStart=>exact ⟨0,[],Nat.zero_le _,rfl,Nat.le_refl _,h0,ah ⟨List.Pairwise.nil,fun x=>by simp⟩⟩
 case round=>
  clear h0;obtain ⟨w4,rfl⟩:∃w4:World,w4=wr:=⟨_,rfl⟩;obtain ⟨k,L,hk,rfl,hLk,o4,HR⟩:=hrel;obtain ⟨AL,cL,rfl,hcL,_⟩:=o4.form;by_cases hlt:k<n
  ·obtain ⟨ad,rfl,_,hcell⟩:=(hr.nx (by decide) o4.nx).2 (by omega)
   have hc0:=hcell k _ (yj (by rw[Hl.out];exact hlt));have HM:=ah (fun x=>JV (l:=l) (k:=k) (by rw[Hl.out];exact hlt) x);have rL:=o4.rd
   have YU:=ah (fun j (hj:j<L.length)=>show ∃b,AL=some b/\w4.cell? (b.add j)=some (.string (L.getD j ByteArray.empty)) by
    obtain ⟨b,e,_,hc⟩:=rL.2 (by omega);exact ⟨b,e,hc j _ (yj hj)⟩)
   obtain ⟨m,hm⟩:∃m,L.length=m:=⟨_,rfl⟩;have Hm:=ah hm;rw[hm]at hLk hcL o4 rL YU ⊢;clear hcell hm;generalize l.getD k ByteArray.empty=s at *;go_wp2_with fail;go_loop [6] (fun s6=>∃j:Nat,j<=m/\s6=.int .i64 (j:Int)/\Hid (∀i,i<j->(L.getD i ByteArray.empty).data.toList<s.data.toList)) (fun s6=>m-(intOf s6).toNat)
   case atStart=>exact ⟨0,Nat.zero_le _,rfl,ah fun i hi=>by omega⟩
   case round=>
    obtain ⟨j,hj,rfl,Hj⟩:=hrel
    have key:(j<m/\(L.getD j ByteArray.empty).data.toList<s.data.toList)∨(j<m/\¬(L.getD j ByteArray.empty).data.toList<s.data.toList/\L.getD j ByteArray.empty=s)∨(j<m/\¬(L.getD j ByteArray.empty).data.toList<s.data.toList/\L.getD j ByteArray.empty≠s)∨j=m:=by
     by_cases h1:j<m
     ·by_cases h2:(L.getD j ByteArray.empty).data.toList<s.data.toList
      ·exact .inl ⟨h1,h2⟩
      ·by_cases h3:L.getD j ByteArray.empty=s
       ·exact .inr (.inl ⟨h1,h2,h3⟩)
       ·exact .inr (.inr (.inl ⟨h1,h2,h3⟩))
     ·exact .inr (.inr (.inr (by omega)))
    rcases key with ⟨h1,h2⟩|⟨h1,h2,h3⟩|⟨h1,h2,h3⟩|h1
    ·obtain ⟨b,rfl,hcj⟩:=YU.out j h1
     have hq:Op.bytesLess (L.getD j ByteArray.empty).toList s.toList=true:=by rw[nK];exact decide_eq_true h2
     have hnx:Hid (∀i,i<j+1->(L.getD i ByteArray.empty).data.toList<s.data.toList):=ah fun i hi=>by
      by_cases e:i=j
      ·subst e;exact h2
      ·exact Hj.out i (by omega)
     have q1:(j:Int)<(m:Int):=(by omega);clear h2 Hj;generalize L.getD j ByteArray.empty=y at *;go_wp2_with fail;go_round
     case rel=>exact ⟨j+1,by omega,by go_num,hnx⟩
     case measure=>simp[intOf];omega
    ·obtain ⟨b,rfl,hcj⟩:=YU.out j h1
     have hq:Op.bytesLess (L.getD j ByteArray.empty).toList s.toList=false:=by rw[nK];exact decide_eq_false h2
     have hq2:((L.getD j ByteArray.empty).toList==s.toList)=true:=by rw[Ud];exact decide_eq_true h3
     have q1:(j:Int)<(m:Int):=by omega
     have hsame:Hid (qZ L/\∀x,x∈L↔x∈l.take (k+1)):=ah ⟨HR.out.1,fun x=>by
      rw[HM.out x,←HR.out.2 x];constructor
      ·exact fun h=>.inl h
      ·rintro (h|h)
       ·exact h
       ·have QW:j<L.length:=by rw[Hm.out];exact h1
        rw[h,←h3,List.getD,List.getElem?_eq_getElem QW];exact List.getElem_mem QW⟩
     clear h2 h3 Hj;generalize L.getD j ByteArray.empty=y at *;go_wp2_with fail;go_roundw
     case rel=>exact ⟨k+1,L,by omega,by go_num,by rw[Hm.out];omega,by rw[Hm.out];exact o4,hsame⟩
     case measure=>simp[intOf];omega
    ·obtain ⟨b,rfl,hcj⟩:=YU.out j h1
     have Xx:Hid (j<m->¬(L.getD j ByteArray.empty).data.toList<s.data.toList/\L.getD j ByteArray.empty≠s):=ah fun _=>⟨h2,h3⟩;have hq:Op.bytesLess (L.getD j ByteArray.empty).toList s.toList=false:=by rw[nK];exact decide_eq_false h2
     have hq2:((L.getD j ByteArray.empty).toList==s.toList)=false:=by rw[Ud];exact decide_eq_false h3
     have q1:(j:Int)<(m:Int):=(by omega);have WA:¬cL=j:=by omega
     have hnew:∀(v':Value) (w':World),au w4 w' 9 1 v' (0+j+1+(m-j)) ([]++bW (L.take j)++[.string s]++bW (L.drop j))->∃L2:List ByteArray,L2.length<=k+1/\au W w' 9 1 v' L2.length (bW L2)/\Hid (qZ L2/\∀x,x∈L2↔x∈l.take (k+1)):=fun v' w' o=>by
      have QW:j<=L.length:=by rw[Hm.out];exact hj
      obtain ⟨q1,q2⟩:=zK HR.out.1 QW Hj.out (fun hlt=>Xx.out (by have:=Hm.out;omega))
      have hl2:(L.take j++[s]++L.drop j).length=m+1:=by
       rw[List.length_append,List.length_append,List.length_take,List.length_drop,Nat.min_eq_left QW,List.length_singleton,Hm.out];omega
      refine ⟨L.take j++[s]++L.drop j,by rw[hl2];omega,?_,ah ⟨q1,fun x=>?_⟩⟩
      ·rw[hl2,show bW (L.take j++[s]++L.drop j)=[]++bW (L.take j)++[.string s]++bW (L.drop j) by simp[bW],show m+1=0+j+1+(m-j) by omega]
       exact ⟨iT o.own o4.nx.size,o4.nx.tr o.nx⟩
      ·rw[q2 x,HR.out.2 x,HM.out x]
     have Fin:=ah hnew;have b1:(j:Int)<=(cL:Int):=by omega
     have rT:Rd (w4.alloc (.cells #[] 9)) (fun _=>True) 1 (some b) j (bW (L.take j)):=by
      have h0:=(rL.take (k:=j) (by omega)).nx (by decide) ((Ch.refl _ w4).alloc (.cells #[] 9));rw[Nat.mul_one,show (bW L).take j=bW (L.take j) by simp[bW,List.map_take]]at h0;exact h0.more fun _ _=>trivial
     have hl1:=au.lit w4 w4 9 (Ch.refl _ w4) 1
     have HD:Hid (∀w',Nx w4 w'->Rd w' (fun _=>True) 1 (some (b.add j)) (m-j) (bW (L.drop j))):=ah fun w' nx=>by
      have h0:=(rL.cut (k:=j) (cap:=cL) (by omega) (by omega)).nx (by decide) nx;rw[if_neg WA,Nat.mul_one,show (bW L).drop j=bW (L.drop j) by simp[bW,List.map_drop]]at h0;exact h0.more fun _ _=>trivial
     have YI:=ah rT;clear hnew rT h2 h3 Hj Xx;generalize L.getD j ByteArray.empty=y at *
     go_wp2_with (at_builtin;first
      |(refine z01 rfl (.tmp 41) (.tmp 44) _ rfl 9 i0 _ 1 16 Tryz.underlying23 hi0 hz0 hz1 hz2 rfl (by omega) rfl hl1 _ _ j _ (bW (L.take j)) rfl YI.out (kY _) (by simp only[maxLen];omega) (by omega) ?_;intro v5 w5 o5 m5)
      |(refine z02 rfl (.tmp 46) (.tmp 48) _ rfl 9 i0 _ 16 Tryz.underlying23 hi0 hz0 hz1 hz2 rfl (.string s) rfl rfl o5 rfl (by simp only[maxLen];omega) (by omega) ?_;intro v6 w6 o6 m6)
      |(refine z01 rfl (.tmp 50) (.tmp 53) _ rfl 9 i0 _ 1 16 Tryz.underlying23 hi0 hz0 hz1 hz2 rfl (by omega) rfl o6 _ (some (b.add j)) (m-j) (cL-j) (bW (L.drop j)) rfl (HD.out w6 o6.nx) (kY _) (by simp only[maxLen];omega) (by omega) ?_;intro v7 w7 o7 m7;have HO:=ah (Fin.out v7 w7 o7);clear o7 m7))
     obtain ⟨L2,hL2,o8,H2⟩:=HO.out;go_roundw
     case rel=>exact ⟨k+1,L2,by omega,by go_num,hL2,o8,H2⟩
     case measure=>simp[intOf];omega
    ·subst h1
     have Xx:Hid (j<j->¬(L.getD j ByteArray.empty).data.toList<s.data.toList/\L.getD j ByteArray.empty≠s):=ah fun h=>absurd h (Nat.lt_irrefl _)
     have hnew:∀(v':Value) (w':World),au w4 w' 9 1 v' (0+j+1+(j-j)) ([]++bW (L.take j)++[.string s]++bW (L.drop j))->∃L2:List ByteArray,L2.length<=k+1/\au W w' 9 1 v' L2.length (bW L2)/\Hid (qZ L2/\∀x,x∈L2↔x∈l.take (k+1)):=fun v' w' o=>by
      have QW:j<=L.length:=by rw[Hm.out];exact hj
      obtain ⟨q1,q2⟩:=zK HR.out.1 QW Hj.out (fun hlt=>Xx.out (by have:=Hm.out;omega))
      have hl2:(L.take j++[s]++L.drop j).length=j+1:=by
       rw[List.length_append,List.length_append,List.length_take,List.length_drop,Nat.min_eq_left QW,List.length_singleton,Hm.out];omega
      refine ⟨L.take j++[s]++L.drop j,by rw[hl2];omega,?_,ah ⟨q1,fun x=>?_⟩⟩
      ·rw[hl2,show bW (L.take j++[s]++L.drop j)=[]++bW (L.take j)++[.string s]++bW (L.drop j) by simp[bW],show j+1=0+j+1+(j-j) by omega]
       exact ⟨iT o.own o4.nx.size,o4.nx.tr o.nx⟩
      ·rw[q2 x,HR.out.2 x,HM.out x]
     have Fin:=ah hnew;have b1:(j:Int)<=(cL:Int):=by omega
     have rT:Rd (w4.alloc (.cells #[] 9)) (fun _=>True) 1 AL j (bW (L.take j)):=by
      have h0:=(rL.take (k:=j) (by omega)).nx (by decide) ((Ch.refl _ w4).alloc (.cells #[] 9));rw[Nat.mul_one,show (bW L).take j=bW (L.take j) by simp[bW,List.map_take]]at h0;exact h0.more fun _ _=>trivial
     have hl1:=au.lit w4 w4 9 (Ch.refl _ w4) 1;have hnd:bW (L.drop j)=[]:=by rw[List.drop_of_length_le (by rw[Hm.out];omega)];rfl
     have YI:=ah rT;clear hnew rT Hj Xx;by_cases WA:cL=j
     ·go_wp2_with (at_builtin;first
       |(refine z01 rfl (.tmp 41) (.tmp 44) _ rfl 9 i0 _ 1 16 Tryz.underlying23 hi0 hz0 hz1 hz2 rfl (by omega) rfl hl1 _ _ j _ (bW (L.take j)) rfl YI.out (kY _) (by simp only[maxLen];omega) (by omega) ?_;intro v5 w5 o5 m5)
       |(refine z02 rfl (.tmp 46) (.tmp 48) _ rfl 9 i0 _ 16 Tryz.underlying23 hi0 hz0 hz1 hz2 rfl (.string s) rfl rfl o5 rfl (by simp only[maxLen];omega) (by omega) ?_;intro v6 w6 o6 m6)
       |(refine z01 rfl (.tmp 50) (.tmp 53) _ rfl 9 i0 _ 1 16 Tryz.underlying23 hi0 hz0 hz1 hz2 rfl (by omega) rfl o6 (fun _=>True) _ 0 _ [] rfl (Rd.none_ _ _ _ _) (by simp) (by simp only[maxLen];omega) (by omega) ?_;intro v7 w7 o7 m7;have HO:=ah (Fin.out v7 w7 (by rw[hnd,Nat.sub_self];exact o7));clear o7 m7))
      obtain ⟨L2,hL2,o8,H2⟩:=HO.out;go_roundw
      case rel=>exact ⟨k+1,L2,by omega,by go_num,hL2,o8,H2⟩
      case measure=>simp[intOf];omega
     ·obtain ⟨b,rfl⟩:∃b,AL=some b:=KX o4.own (by omega)
      go_wp2_with (at_builtin;first
       |(refine z01 rfl (.tmp 41) (.tmp 44) _ rfl 9 i0 _ 1 16 Tryz.underlying23 hi0 hz0 hz1 hz2 rfl (by omega) rfl hl1 _ _ j _ (bW (L.take j)) rfl YI.out (kY _) (by simp only[maxLen];omega) (by omega) ?_;intro v5 w5 o5 m5)
       |(refine z02 rfl (.tmp 46) (.tmp 48) _ rfl 9 i0 _ 16 Tryz.underlying23 hi0 hz0 hz1 hz2 rfl (.string s) rfl rfl o5 rfl (by simp only[maxLen];omega) (by omega) ?_;intro v6 w6 o6 m6)
       |(refine z01 rfl (.tmp 50) (.tmp 53) _ rfl 9 i0 _ 1 16 Tryz.underlying23 hi0 hz0 hz1 hz2 rfl (by omega) rfl o6 (fun _=>True) _ 0 _ [] rfl (Rd.none_ _ _ _ _) (by simp) (by simp only[maxLen];omega) (by omega) ?_;intro v7 w7 o7 m7;have HO:=ah (Fin.out v7 w7 (by rw[hnd,Nat.sub_self];exact o7));clear o7 m7))
      obtain ⟨L2,hL2,o8,H2⟩:=HO.out;go_roundw
      case rel=>exact ⟨k+1,L2,by omega,by go_num,hL2,o8,H2⟩
      case measure=>simp[intOf];omega
  ·obtain rfl:n=k:=by omega
   have hfin:=HU.out L HR.out.1 fun x=>by
    have:=HR.out.2 x;rw[List.take_of_length_le (by rw[Hl.out];omega)]at this;exact this
   have HF:=ah hfin;clear hfin;go_wp2_with fail;go_ret;exact ⟨_,rfl,by rw[←HF.out];exact o4⟩
theorem PU {all:List ByteArray} {x:ByteArray} {k:Nat} (hk:k<all.length) (h1:∀i,i<k->all.getD i ByteArray.empty≠x) (h2:all.getD k ByteArray.empty=x):dw all x=k:=by
 unfold dw;rw[List.getD,List.getElem?_eq_getElem hk]at h2;refine (List.findIdx_eq hk).2 ⟨by simpa using h2,fun j hj=>?_⟩;have:=h1 j hj;rw[List.getD,List.getElem?_eq_getElem (by omega)]at this;simpa using this
theorem rU (D:Nat->Prop) (A:Option Addr) (n c:Nat) (all:List ByteArray) (x:ByteArray) (W:World) (hr:Rd W D 1 A n (bW all)) (hl:all.length=n) (hn:n<=1000000) (hx:x∈all):
 Calls Tryz.prog 49 #[.slice A n c,.string x] W fun e w'=>e=.returned (.int .i64 (dw all x:Int))/\W=w':=by
 subst hl;have HX:=ah hx;clear hx;go_enter Tryz.func49,Tryz.ntmps49;go_wp2_with fail;go_loop [8] (fun i=>∃k:Nat,k<=all.length/\i=.int .i64 (k:Int)/\Hid (∀j,j<k->all.getD j ByteArray.empty≠x)) (fun i=>all.length-(intOf i).toNat)
 case atStart=>exact ⟨0,Nat.zero_le _,rfl,ah fun j hj=>by omega⟩
 case round=>
  obtain ⟨k,hk,rfl,Hk⟩:=hrel;by_cases hlt:k<all.length
  ·obtain ⟨ad,rfl,_,hcell⟩:=hr.2 (by omega)
   have hc0:=hcell k _ (yj hlt);by_cases he:all.getD k ByteArray.empty=x
   ·have hfin:=ah (PU hlt Hk.out he)
    have hq:((all.getD k ByteArray.empty).toList==x.toList)=true:=by rw[Ud];exact decide_eq_true he
    clear hcell he Hk;generalize all.getD k ByteArray.empty=y at *;go_wp2_with fail;go_ret;rw[hfin.out];exact ⟨rfl,rfl⟩
   ·have hnx:Hid (∀j,j<k+1->all.getD j ByteArray.empty≠x):=ah fun j hj=>by
     by_cases e:j=k
     ·subst e;exact he
     ·exact Hk.out j (by omega)
    have hq:((all.getD k ByteArray.empty).toList==x.toList)=false:=by rw[Ud];exact decide_eq_false he
    clear hcell he Hk;generalize all.getD k ByteArray.empty=y at *;go_wp2_with fail;go_round
    case rel=>exact ⟨k+1,by omega,by go_num,hnx⟩
    case measure=>simp[intOf];omega
  ·obtain rfl:all.length=k:=by omega
   exfalso
   obtain ⟨j,hj,he⟩:=List.mem_iff_getElem.1 HX.out;have:=Hk.out j hj;rw[List.getD,List.getElem?_eq_getElem hj]at this;exact this he
end Go.Proofs.YtfljcllpmbnjaaaGreat
