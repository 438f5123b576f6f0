/- Contracts and plain laws that the last text rests on. Conditions: each theorem states its own. -/
import Derived.Test.YtfljcllpmbnjaaaGreatKdQ11
import Derived.Test.YtfljcllpmbnjaaaGreatKdQ3
import Derived.Test.YtfljcllpmbnjaaaGreatKdQ1
set_option maxRecDepth 100000
set_option maxHeartbeats 4000000
set_option linter.unusedVariables false
namespace Go.Proofs.YtfljcllpmbnjaaaGreat
open Go.RowKit
structure iH (w:World) (D:Nat->Prop) (t:Nat) (zs:List Int):Prop where
 err:bH zs=0
 ZN:D t
 mem:∃A1 c1 A2 c2 A3 c3,dD w t 208 (AB (.slice A1 zs.length c1) (.slice A2 zs.length c2) (.slice A3 (gQ zs 15).length c3) (Ox zs))/\
  Rd w D 1 A1 zs.length (il zs)/\Rd w D 1 A2 zs.length (wl (codes zs))/\Rd w D 1 A3 (gQ zs 15).length (il (gQ zs 15))
theorem wL (zs:List Int):(codes zs).length=zs.length:=by simp[codes]
theorem JA {zs:List Int} (h:bH zs=0):zs.length<=320/\(∀z∈zs,0<=z/\z<=15)/\bQ zs 15<=32768/\(bQ zs 15=32768∨bZ zs 15=0∨(bZ zs 15=1/\cnt zs 1=1)):=by
 unfold bH at h;split at h
 ·omega
 ·split at h
  ·omega
  ·next h1 h2=>
   split at h
   ·omega
   ·next h3=>
    refine ⟨by omega,fun z hz=>?_,by omega,by omega⟩;have:¬(z<0∨15<z):=fun hb=>h2 ⟨z,hz,hb⟩;omega
theorem iH.Vx {W w:World} {t:Nat} {zs:List Int} {lv wv sv:Value} (he:bH zs=0) (m:Mk W w t zs (codes zs) (Ox zs) (gQ zs 15) lv wv sv):iH w (fun k=>W.heap.size<=k/\k<w.heap.size) t zs:=by
 obtain ⟨A1,c1,rfl,_,_⟩:=m.len.form;obtain ⟨A2,c2,rfl,_,_⟩:=m.ug.form;obtain ⟨A3,c3,rfl,_,_⟩:=m.srt.form;have hw:=m.ug.rd;have hb:=m.blk;rw[wL]at hw hb;exact ⟨he,⟨m.lo,m.blk.lt⟩,A1,c1,A2,c2,A3,c3,hb,m.len.rd.more fun k hk=>hk.2,hw.more fun k hk=>hk.2,m.srt.rd.more fun k hk=>hk.2⟩
theorem iH.ch {w w':World} {D:Nat->Prop} {t:Nat} {zs:List Int} {S:Nat->Prop} (h:iH w D t zs) (c:Ch S w w') (hS:∀k,D k->¬S k):iH w' D t zs:=by
 obtain ⟨he,ht,A1,c1,A2,c2,A3,c3,b,r1,r2,r3⟩:=h;exact ⟨he,ht,A1,c1,A2,c2,A3,c3,b.ch c (hS _ ht),r1.ch (by omega) c (fun k _=>hS k),r2.ch (by omega) c (fun k _=>hS k),r3.ch (by omega) c (fun k _=>hS k)⟩
theorem PI (D:Nat->Prop) (A:Option Addr) (n c:Nat) (zs:List Int) (W:World) (hr:Rd W D 1 A n (il zs)) (hl:zs.length=n) (hn:n<=320) (he:bH zs=0):
 Calls Tryz.prog 173 #[.slice A n c] W fun e w'=>∃t,e=.returned (.tuple #[.pointer (some ⟨t,0,none⟩),.int .i64 0])/\iH w' (fun k=>W.heap.size<=k/\k<w'.heap.size) t zs/\Nx W w':=by
 refine (yY D A n c zs W hr hl hn).mono fun e w' h=>?_;rcases h with ⟨_,t,lv,wv,sv,rfl,m⟩|⟨h,_⟩
 ·exact ⟨t,rfl,iH.Vx he m,m.len.nx⟩
 ·exact absurd he h
theorem Ls (D:Nat->Prop) (A:Option Addr) (n c:Nat) (zs:List Int) (W:World) (hr:Rd W D 1 A n (il zs)) (hl:zs.length=n) (hn:n<=320) (he:bH zs≠0):
 Calls Tryz.prog 173 #[.slice A n c] W fun e w'=>e=.returned (.tuple #[.pointer none,.int .i64 (bH zs)])/\Nx W w':=by
 refine (yY D A n c zs W hr hl hn).mono fun e w' h=>?_;rcases h with ⟨h,_⟩|⟨_,h⟩
 ·exact absurd h he
 ·exact h
theorem Dx {zs:List Int} {k:Nat} (h:k<zs.length):(il zs)[k]?=some (.int .i64 zs[k]):=by simp[il,h]
def jU (bs:List Nat) (p:Nat) (i:Nat):Nat:=dO bs (p+i)
theorem Zu (bs:List Nat) (p:Nat) (i:Nat):jU bs p i<2:=Ua _ _
def bg (zs:List Int) (bs:List Nat) (p:Nat):Nat->Nat->Int×Int×Nat
 |0,n=>(0,4,p+n)
 |k+1,n=>
  if bZ zs 15<=bZ zs n then (0,4,p+n) else
  if 8 * bs.length<=p+n then (0,3,p+n) else
  if msb (jU bs p) (n+1)<2 * bQ zs n+cnt zs (n+1) then ((gQ zs 15).getD (bZ zs n+(msb (jU bs p) (n+1)-2 * bQ zs n)) 0,0,p+n+1)
  else bg zs bs p k (n+1)
theorem RZ (w x:Nat) (hw:w<2147483648) (hx:x<2):bits .or .i64 (2 * (w:Int)) (x:Int)=((2 * w+x:Nat):Int):=by
 have e:(2 * w)|||x=2 * w+x:=by
  have:=Nat.two_pow_add_eq_or_of_lt (i:=1) (b:=x) (by omega) w;simpa using this.symm
 have h1:(BitVec.ofInt 64 (2 * (w:Int))).toNat=2 * w:=by
  rw[show 2 * (w:Int)=((2 * w:Nat):Int) by simp,BitVec.ofInt_natCast,BitVec.toNat_ofNat];exact Nat.mod_eq_of_lt (by omega)
 have h2:(BitVec.ofInt 64 (x:Int)).toNat=x:=by
  rw[BitVec.ofInt_natCast,BitVec.toNat_ofNat];exact Nat.mod_eq_of_lt (by omega)
 show IntKind.i64.wrap ((BitVec.ofInt 64 (2 * (w:Int))|||BitVec.ofInt 64 (x:Int)).toNat:Int)=_
 rw[BitVec.toNat_or,h1,h2,e,IntKind.wrap_i64];omega
set_option maxRecDepth 100000 in
theorem next_any (D:Nat->Prop) (t:Nat) (zs:List Int) (g h:Nat) (bs:List Nat) (p:Nat) (w:World) (ht:iH w D t zs) (r:cZ w g h bs p) (hD:¬D g):
 Calls Tryz.prog 179 #[.pointer (some ⟨t,0,none⟩),.pointer (some ⟨g,0,none⟩)] w fun e w'=>
  e=.returned (.tuple #[.int .i64 (bg zs bs p 15 0).1,.int .i64 (bg zs bs p 15 0).2.1])/\cZ w' g h bs (bg zs bs p 15 0).2.2/\Ch (· =g) w w':=by
 have hok:=JA ht.err;obtain ⟨hn, -,he15, -⟩:=hok;have hle:=r.le;have hf:=Zu bs p;have Hf:=ah hf;clear hf;go_enter Tryz.func179,Tryz.ntmps179;go_wp2_with fail
 go_loopw [6,7,8,9] (fun wd fi at_ q wr=>∃n:Nat,n<=15/\q=.int .i64 ((n:Int)+1)/\wd=.int .i64 (msb (jU bs p) n:Int)/\fi=.int .i64 (bQ zs n:Int)/\at_=.int .i64 (bZ zs n:Int)/\
  Hid (bg zs bs p 15 0=bg zs bs p (15-n) n)/\Past zs (jU bs p) n/\cZ wr g h bs (p+n)/\Ch (· =g) w wr) (fun _ _ _ q _=>16-(intOf q).toNat)
 case atStart=>exact ⟨0,by omega,by simp,rfl,rfl,rfl,ah rfl,rZ _ _,r,Ch.refl _ _⟩
 case round=>
  obtain ⟨n,hn15,rfl,rfl,rfl,rfl,Hx,hp,q,hc⟩:=hrel;have ht2:=ht.ch hc (fun k hk e=>hD (e▸hk));obtain ⟨A1,c1,A2,c2,A3,c3,b,r1,r2,r3⟩:=ht2.mem;have d3:wr.cell? ⟨t,18,none⟩=some (.slice A3 (gQ zs 15).length c3):=b.cell 18;have hal:=XI zs 15 (by omega) hn;have hal2:=XY zs n (15-n);rw[show n+(15-n)=15 by omega]at hal2;have hsl:=Yy zs 15;rw[hsl]at d3 r3;by_cases h15:n<15
  ·have hcnt:wr.cell? ⟨t,2+(n+1),none⟩=some (.int .i64 (cnt zs (n+1):Int)):=by
    have:=(b.cell _).trans (Ve _ _ _ _ (n+1) (by omega));rw[this];simp only[Ox,if_neg (show ¬(n+1=0) by omega)]
   have hcl:=cnt_le zs (n+1)
   have hnx:bg zs bs p (15-n) n=if bZ zs 15<=bZ zs n then (0,4,p+n) else
    if 8 * bs.length<=p+n then (0,3,p+n) else
    if msb (jU bs p) (n+1)<2 * bQ zs n+cnt zs (n+1) then ((gQ zs 15).getD (bZ zs n+(msb (jU bs p) (n+1)-2 * bQ zs n)) 0,0,p+n+1)
    else bg zs bs p (14-n) (n+1):=by
    rw[show 15-n=(14-n)+1 by omega];rfl
   have hm1:=Si _ Hf.out n;have hm2:(2:Nat) ^ n<=2 ^ 14:=Nat.pow_le_pow_right (by omega) (by omega);have hm:msb (jU bs p) n<16384:=by omega
   have hen:bQ zs n<=32768:=by
    have:=UW he15 n (by omega);omega
   have hfst:=nH hp;have hstep:=r_ hp;have hms:msb (jU bs p) (n+1)=2 * msb (jU bs p) n+dO bs (p+n):=rfl;have hor:=RZ (msb (jU bs p) n) (dO bs (p+n)) (by omega) (Ua _ _);rw[←hms,Int.mul_comm]at hor;have hb2:=Ua bs (p+n);have hWb:msb (jU bs p) (n+1)<=32768:=by rw[hms];omega
   have hea:bZ zs (n+1)=bZ zs n+cnt zs (n+1):=rfl;have hee:bQ zs (n+1)=2 * bQ zs n+cnt zs (n+1):=rfl;have YM:=ah hea;have Hee:=ah hee;have Jq:=ah (Hx.out.trans hnx);have iw:=ah hstep;clear hnx hstep hea hee hms hm1 hm2 hp Hx b r1 r2 ht2;generalize hW:msb (jU bs p) (n+1)=W' at *;have HW:=ah hW;clear hW;generalize msb (jU bs p) n=w0 at *;generalize hE:bQ zs n=E at *;have HE:=ah hE;clear hE;by_cases hstop:bZ zs 15<=bZ zs n
   ·have he:=Jq.out
    rw[if_pos hstop]at he;have Hv:=ah he;clear he hor;go_wp2_with fail;go_ret2;rw[Hv.out];exact ⟨rfl,q,hc⟩
   ·by_cases hshort:8 * bs.length<=p+n
    ·have he:=Jq.out
     rw[if_neg hstop,if_pos hshort]at he;have Hv:=ah he;clear he hor;go_wp2_with fail;with_reducible refine (z29 g h bs (p+n) 1 _ q (by omega) (by omega) (by omega)).mono ?_
     rintro e w3 ⟨rfl,n3,rfl⟩;go_wp2_with fail;go_ret2;rw[Hv.out];exact ⟨rfl,q.nx (Dr.jG _ _).nx,hc.drewN _⟩
    ·by_cases hhit:W'<2 * E+cnt zs (n+1)
     ·have he:=Jq.out
      rw[if_neg hstop,if_neg hshort,if_pos hhit]at he;have Hv:=ah he;have hlt3:bZ zs n+W'-E * 2<bZ zs 15:=by have:=YM.out;have h2:=XY zs (n+1) (14-n);rw[show n+1+(14-n)=15 by omega]at h2;omega
      obtain ⟨ad,u,rfl,kN,hu,w_⟩:=r3.at_ (k:=bZ zs n+W'-E * 2) hlt3
      have hu2:u=.int .i64 ((gQ zs 15).getD (bZ zs n+(W'-2 * E)) 0):=by
       rw[Dx (by rw[hsl];exact hlt3)]at hu;injection hu with hu;rw[←hu,show bZ zs n+(W'-2 * E)=bZ zs n+W'-E * 2 by omega];simp[List.getD,hsl,hlt3]
      subst hu2;generalize (gQ zs 15).getD (bZ zs n+(W'-2 * E)) 0=sy at *;have Wn:(W':Int)-(E:Int) * 2<(cnt zs (n+1):Int):=(by omega);clear he hu;have YH:=ah hsl;clear hsl;go_wp2_with fail;with_reducible refine (nC g h bs (p+n) _ q (by omega)).mono ?_
      rintro e w3 ⟨rfl,q3,ch3⟩;have kp:∀x:Addr,D x.block->∀v,wr.cell? x=some v->w3.cell? x=some v:=fun x hx v hv=>(ch3.cell (World.block_lt_of_cell? _ _ hv) (fun e=>hD (e▸hx))).trans hv;have Wy:=kp _ ht.ZN _ hcnt;have d33:=kp _ ht.ZN _ d3;have hcu3:=kp _ (by rw[xC];exact kN) _ w_;clear kp hcnt d3 w_;go_wp2_with fail;go_ret2;rw[Hv.out];exact ⟨rfl,q3,hc.trans ch3 (fun _ _ e=>e)⟩
     ·have he:=Jq.out
      rw[if_neg hstop,if_neg hshort,if_neg hhit]at he
      have hp':Past zs (jU bs p) (n+1):=by
       rcases iw.out with h|h
       ·exact absurd h hhit
       ·exact h
      have Hv:=ah he;have Wn:¬((W':Int)-(E:Int) * 2<(cnt zs (n+1):Int)):=(by omega);clear he r3 hal2;have YH:=ah hsl;clear hsl;go_wp2_with fail;with_reducible refine (nC g h bs (p+n) _ q (by omega)).mono ?_
      rintro e w3 ⟨rfl,q3,ch3⟩;have kp:∀x:Addr,D x.block->∀v,wr.cell? x=some v->w3.cell? x=some v:=fun x hx v hv=>(ch3.cell (World.block_lt_of_cell? _ _ hv) (fun e=>hD (e▸hx))).trans hv;have Wy:=kp _ ht.ZN _ hcnt;clear kp hcnt;go_wp2_with fail;go_roundw
      case rel=>
       refine ⟨n+1,by omega,by go_num,by rw[HW.out],?_,?_,?_,hp',q3,hc.trans ch3 (fun _ _ e=>e)⟩
       ·rw[Hee.out];go_num
       ·rw[YM.out];go_num
       ·exact ah (by rw[Hv.out,show 15-(n+1)=14-n by omega])
      case measure=>simp[intOf];omega
  ·obtain rfl:n=15:=by omega
   have hv:=Hx.out;have e0:bg zs bs p (15-15) 15=(0,4,p+15):=rfl;rw[e0]at hv;have Hv:=ah hv;clear hv e0;go_wp2_with fail;go_ret2;rw[Hv.out];exact ⟨rfl,q,hc⟩
end Go.Proofs.YtfljcllpmbnjaaaGreat
namespace Go.Proofs.YtfljcllpmbnjaaaGreat
structure Inf where
 p:Nat
 out:List Nat
 e:Int
def aN (e:Int) (s:Inf):Inf:=if s.e=0 then { s with e:=e} else s
def aA (bs:List Nat) (n:Nat) (s:Inf):Nat×Inf:=
 if s.e≠0 then (0,s) else if s.p+n<=8 * bs.length then (aS bs s.p n,{ s with p:=s.p+n}) else (0,{ s with e:=3})
def cO (bs:List Nat) (zs:List Int) (s:Inf):Int×Inf:=
 if s.e≠0 then (0,s) else ((bg zs bs s.p 15 0).1,{ s with p:=(bg zs bs s.p 15 0).2.2,e:=(bg zs bs s.p 15 0).2.1})
def aQ (most:Int) (n:Int) (s:Inf):Inf:=if most-(s.out.length:Int)<n then aN 5 s else s
def kH (bs:List Nat):Nat->Inf->Inf
 |0,s=>s
 |k+1,s=>if (aA bs 8 s).2.e≠0 then (aA bs 8 s).2 else kH bs k { (aA bs 8 s).2 with out:=(aA bs 8 s).2.out++[(aA bs 8 s).1]}
def rD (bs:List Nat) (most:Int) (n m:Nat) (s3:Inf):Inf:=
 let s4:=if s3.e=0/\n≠65535-m then aN 4 s3 else s3
 if s4.e≠0 then s4 else
 let s5:=aQ most n s4
 if s5.e≠0 then s5 else kH bs n s5
def dV (bs:List Nat) (most:Int) (s:Inf):Inf:=
 rD bs most (aA bs 16 { s with p:=(s.p+7) / 8 * 8}).1 (aA bs 16 (aA bs 16 { s with p:=(s.p+7) / 8 * 8}).2).1 (aA bs 16 (aA bs 16 { s with p:=(s.p+7) / 8 * 8}).2).2
def bI (bs:List Nat) (k:Nat) (s:Inf):Nat×Inf:=
 if k<8 then (k+3,s) else if k=28 then (258,s) else (3+(4+k % 4) * 2 ^ (k / 4-1)+(aA bs (k / 4-1) s).1,(aA bs (k / 4-1) s).2)
def dH (bs:List Nat) (k:Nat) (s:Inf):Nat×Inf:=
 if k<2 then (k+1,s) else (1+(2+k % 2) * 2 ^ (k / 2-1)+(aA bs (k / 2-1) s).1,(aA bs (k / 2-1) s).2)
def dQ:Nat->Nat->List Nat->List Nat
 |0,_,l=>l
 |n+1,d,l=>dQ n d (l++[l.getD (l.length-d) 0])
def Az (bs:List Nat) (most:Int) (n:Nat) (d:Int) (s3:Inf):Bool×Inf:=
 let s4:=if s3.e=0/\29<d then aN 4 s3 else s3
 let dd:=if s4.e=0 then (dH bs d.toNat s4).1 else 0
 let s5:=if s4.e=0 then (dH bs d.toNat s4).2 else s4
 let s6:=if s5.e=0/\s5.out.length<dd then aN 4 s5 else s5
 if s6.e≠0 then (false,s6) else
 if (aQ most n s6).e≠0 then (false,aQ most n s6) else (true,{ aQ most n s6 with out:=dQ n dd (aQ most n s6).out})
def xE (bs:List Nat) (most:Int) (zd:List Int) (x:Int) (s1:Inf):Bool×Inf:=
 if s1.e≠0∨x=256 then (false,s1) else
 if x<256 then (true,if (aQ most 1 s1).e=0 then { aQ most 1 s1 with out:=(aQ most 1 s1).out++[x.toNat]} else aQ most 1 s1) else
 if 285<x then (false,aN 4 s1) else
 Az bs most (bI bs (x-257).toNat s1).1 (cO bs zd (bI bs (x-257).toNat s1).2).1 (cO bs zd (bI bs (x-257).toNat s1).2).2
def xG (bs:List Nat) (most:Int) (zl zd:List Int) (s:Inf):Bool×Inf:=xE bs most zd (cO bs zl s).1 (cO bs zl s).2
def aP (bs:List Nat) (most:Int) (zl zd:List Int):Nat->Inf->Inf
 |0,s=>s
 |k+1,s=>if s.e≠0 then s else if (xG bs most zl zd s).1 then aP bs most zl zd k (xG bs most zl zd s).2 else (xG bs most zl zd s).2
def jF:List Int:=(List.range 288).map fun s=>if s<144∨279<s then 8 else if s<256 then 9 else 7
def z16:List Int:=List.replicate 32 5
def dU:List Nat:=[16,17,18,0,8,7,9,6,10,5,11,4,12,3,13,2,14,1,15]
def dP (bs:List Nat):Nat->Nat->List Int->Inf->List Int×Inf
 |0,_,t,s=>(t,s)
 |k+1,i,t,s=>dP bs k (i+1) (t.set (dU.getD i 0) ((aA bs 3 s).1:Int)) (aA bs 3 s).2
def bV (bs:List Nat) (l:List Int) (x:Int) (s:Inf):Int×Nat×Inf:=
 if x<16 then (x,1,s) else
 if x=16 then (l.getD (l.length-1) 0,3+(aA bs 2 s).1,(aA bs 2 s).2) else
 if x=17 then (0,3+(aA bs 3 s).1,(aA bs 3 s).2) else (0,11+(aA bs 7 s).1,(aA bs 7 s).2)
def gV (nm:Nat) (l:List Int) (times:Nat) (s:Inf):Inf:=if s.e=0/\nm<l.length+times then aN 4 s else s
def eF (bs:List Nat) (zt:List Int) (nm:Nat):Nat->List Int->Inf->List Int×Inf
 |0,l,s=>(l,s)
 |k+1,l,s=>
  if s.e≠0∨nm<=l.length then (l,s) else
  if (cO bs zt s).2.e≠0 then (l,(cO bs zt s).2) else
  if (cO bs zt s).1=16/\l=[] then (l,aN 4 (cO bs zt s).2) else
  eF bs zt nm k (l++List.replicate (bV bs l (cO bs zt s).1 (cO bs zt s).2).2.1 (bV bs l (cO bs zt s).1 (cO bs zt s).2).1)
   (gV nm l (bV bs l (cO bs zt s).1 (cO bs zt s).2).2.1 (bV bs l (cO bs zt s).1 (cO bs zt s).2).2.2)
def jq (zs:List Int) (s:Inf):Inf:=if bH zs=0 then s else aN 4 s
def qL (l:List Int) (s:Inf):Inf:=if s.e=0/\l.getD 256 0=0 then aN 4 s else s
def Vq (bs:List Nat) (n m k:Nat) (s3:Inf):(List Int×List Int)×Inf:=
 let s4:=if s3.e=0/\(286<n∨30<m) then aN 4 s3 else s3
 let t:=dP bs k 0 (List.replicate 19 0) s4
 if t.2.e≠0 then (([],[]),t.2) else
 let l:=eF bs t.1 (n+m) (n+m) [] (jq t.1 t.2)
 if l.2.e≠0 then (([],[]),l.2) else ((l.1.take n,l.1.drop n),qL l.1 l.2)
def aH (bs:List Nat) (s:Inf):(List Int×List Int)×Inf:=
 Vq bs ((aA bs 5 s).1+257) ((aA bs 5 (aA bs 5 s).2).1+1) ((aA bs 4 (aA bs 5 (aA bs 5 s).2).2).1+4) (aA bs 4 (aA bs 5 (aA bs 5 s).2).2).2
def FU (bs:List Nat) (most:Int) (zl zd:List Int) (s:Inf):Inf:=
 if s.e≠0 then s else
 if (jq zl s).e≠0 then jq zl s else aP bs most zl zd (8 * bs.length+1) (jq zd (jq zl s))
def fA (bs:List Nat) (most:Int) (kind:Nat) (s:Inf):Inf:=
 if kind=0 then dV bs most s else
 if kind=1 then FU bs most jF z16 s else
 if kind=2 then FU bs most (aH bs s).1.1 (aH bs s).1.2 (aH bs s).2 else aN 4 s
def Jw (bs:List Nat) (most:Int) (s:Inf):Inf:=
 if (aA bs 2 (aA bs 1 s).2).2.e≠0 then (aA bs 2 (aA bs 1 s).2).2 else fA bs most (aA bs 2 (aA bs 1 s).2).1 (aA bs 2 (aA bs 1 s).2).2
def jE (bs:List Nat) (most:Int):Nat->Inf->Inf
 |0,s=>s
 |k+1,s=>if (Jw bs most s).e=0/\(aA bs 1 s).1=0 then jE bs most k (Jw bs most s) else Jw bs most s
def jV (bs:List Nat) (most:Int):List Nat×Nat×Int:=
 if most<0∨65536<most then ([],0,1) else
 let s:=jE bs most (8 * bs.length+1) ⟨0,[],0⟩
 if s.e≠0 then ([],0,s.e) else (s.out,(s.p+7) / 8,0)
end Go.Proofs.YtfljcllpmbnjaaaGreat
