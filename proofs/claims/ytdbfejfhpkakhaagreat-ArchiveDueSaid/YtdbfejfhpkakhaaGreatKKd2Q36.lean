/- Contracts and plain laws that the last text rests on. Conditions: each theorem states its own. -/
import Derived.Test.YtdbfejfhpkakhaaGreatKKd2Q35
import Derived.Test.YtdbfejfhpkakhaaGreatKKd2PbBkJ
import Derived.Test.YtdbfejfhpkakhaaGreatKKd2Q23
import Derived.Test.YtdbfejfhpkakhaaGreatKKd2Q29
import Derived.Test.YtdbfejfhpkakhaaGreatKKd2PbSpE
import Derived.Test.YtdbfejfhpkakhaaGreatKKd2Q31
import Derived.Test.YtdbfejfhpkakhaaGreatKKd2Q12
import Derived.Test.YtdbfejfhpkakhaaGreatKKd2Q25
import Derived.Test.YtdbfejfhpkakhaaGreatKKd2Q6
set_option maxRecDepth 100000
set_option maxHeartbeats 16000000
set_option linter.unusedVariables false
set_option linter.unusedSimpArgs false
namespace Go.Proofs.YtdbfejfhpkakhaaGreat
open Go.RowKit
theorem Ee (n:Nat):okB (four n):=by
 intro x hx;simp only[four,List.mem_cons,List.not_mem_nil,or_false]at hx;rcases hx with rfl|rfl|rfl|rfl<;>omega
theorem wo {xs:List Nat} (ok:okB xs):okB (iJ xs):=fun x hx=>by
 rcases List.mem_append.1 hx with h|h
 ·exact ok x h
 ·exact Ee _ x h
theorem Zb {kind:Nat} (hk:kind<256) {xs:List Nat} (ok:okB xs) (hl:xs.length<=65536):okB (aI kind xs):=wo (qO hk ok hl)
theorem Lu {α:Type} {per:Nat} (hp:0<per) {l g:List α} (hg:g∈eu per l):0<g.length/\g.length<=per/\g.length<=l.length/\(∀x∈g,x∈l)/\g<:+:l:=by
 obtain ⟨i,hi,rfl⟩:=List.mem_iff_getElem.1 hg;have h2:=hi;rw[Ti,kS hp]at h2;rw[ZV hi];refine ⟨?_,?_,?_,fun x hx=>List.mem_of_mem_drop (List.mem_of_mem_take hx),(List.take_prefix _ _).isInfix.trans (List.drop_suffix _ _).isInfix⟩
 ·rw[List.length_take,List.length_drop];omega
 ·rw[List.length_take];omega
 ·rw[List.length_take,List.length_drop];omega
theorem MH (gs:List (List aC)):yI gs=headB++(cZ gs++(jS gs++(four (jS gs).length++[69,78,84,82]))):=by simp[yI]
theorem Qq (gs:List (List aC)):(yI gs).length=5+(cZ gs).length+(jS gs).length+8:=by
 rw[MH];simp only[List.length_append,headB,four,List.length_cons,List.length_nil];omega
def PostE.fits (p:PostE):Prop:=p.text.size<=1024/\p.gs.length<=2048/\∀g∈p.gs,g<=262144
theorem Gh {l:List aC} (hg:eF l):okB (iE l):=by
 have hc:∀x∈aZ l,okB x:=by
  have hl:=hg.few;have hI:∀zs:List Int,zs.length<=256->jl zs=0->okB (aI 1 (dS zs)):=fun zs h1 h2=>Zb (by decide) (xk h2) (by have:=(z3B h2).2;omega);intro x hx;unfold aZ at hx;simp only[List.mem_cons,List.not_mem_nil,or_false]at hx;rcases hx with rfl|rfl|rfl|rfl|rfl|rfl|rfl|rfl|rfl
  ·exact hI _ (by simpa using hl) hg.time
  ·exact hI _ (by simpa using hl) hg.maker
  ·exact hI _ (by simpa using hl) hg.seq
  ·exact hI _ (by simpa using hl) hg.place
  ·exact hI _ (by simpa using hl) hg.kind
  ·exact Zb (by decide) (qh (by simp;omega) (Dl l)) hg.words
  ·exact Zb (by decide) (qm (by simp;omega) hg.text).1 hg.texts
  ·exact hI _ (by simpa using hl) hg.value
  ·exact Zb (by decide) (qZ (by simp;omega)) (by have:=z2N (l:=l.map fun x=>x.null) (by simp;omega);omega)
 intro x hx;unfold iE at hx;obtain ⟨t,ht,hx⟩:=List.mem_flatMap.1 hx;have hl:=Rj hg t ht;unfold fD at hx;rcases List.mem_append.1 hx with hx|hx
 ·exact iG (by omega) x hx
 ·exact hc t ht x hx
theorem rY {l:List aC} {per:Int} (h:z13 l per=0):1<=per/\per<=256/\l.length<=2048/\jh l=true/\(ES l per.toNat).length<=262144:=by
 unfold z13 at h;split at h
 ·cases h
 ·split at h
  ·cases h
  ·split at h
   ·cases h
   ·split at h
    ·cases h
    ·next h1 h2 h3 h4=>exact ⟨by omega,by omega,by omega,by simpa using h3,by omega⟩
theorem LC {l:List aC} {per:Nat} (hp:0<per) (h2:per<=256) (hl:jh l=true):∀g∈eu per l,eF g/\jh g=true:=fun g hg=>by
 obtain ⟨c1,c2,c3,c4,c5⟩:=Lu hp hg;obtain ⟨m1,m2,m3⟩:=QZ.1 hl;exact ⟨⟨by omega,fun x hx=>m2 x (c4 x hx)⟩,QZ.2 ⟨c1,fun x hx=>m2 x (c4 x hx),m3.sublist c5.sublist⟩⟩
theorem B_ {α:Type} {l:List α} {per:Nat} (hp:0<per):(eu per l).length<=l.length:=by
 rw[Ti];by_cases h:l.length=0
 ·rw[h,Nat.zero_add,Nat.div_eq_of_lt (by omega)]
  exact Nat.zero_le _
 ·refine Nat.div_le_of_le_mul ?_
  have:l.length<=per * l.length:=Nat.le_mul_of_pos_left _ hp;obtain ⟨q,rfl⟩:∃q,per=q+1:=⟨per-1,by omega⟩;have e:(q+1) * l.length=q * l.length+l.length:=by rw[Nat.succ_mul]
  have:q<=q * l.length:=Nat.le_mul_of_pos_right _ (by omega);omega
theorem wK {gs:List (List aC)} (hg:gs.length<=2048):∀p∈NR gs,p.fits:=fun p hp=>by
 obtain ⟨t,ht,rfl⟩:=List.mem_map.1 hp;have ht:=Q_.1 ht;obtain ⟨x,_,rfl⟩:=List.mem_map.1 ht;have h1:=WW x;have h2:=xK (gs:=gs) (cu x);refine ⟨by simp only;omega,by simp only;omega,fun g hgg=>?_⟩;have:=Eb g hgg;omega
section
variable {l : List aC} {per : Int} (h : z13 l per = 0)
include h
theorem Bf:∃gs,gs=eu per.toNat l/\ES l per.toNat=yI gs/\0<per.toNat/\per.toNat<=256/\0<l.length/\(∀g∈gs,eF g/\jh g=true)/\gs.length<=2048/\0<gs.length/\gs.flatten=l/\l.length<=2048/\5+(cZ gs).length<=262144/\(yI gs).length<=262144:=by
 obtain ⟨h1,h2,h3,h4,h5⟩:=rY h;have hp:0<per.toNat:=by omega
 have hl:=(QZ.1 h4).1;refine ⟨_,rfl,rfl,hp,by omega,hl,LC hp (by omega) h4,?_,?_,rC hp l,h3,?_,h5⟩
 ·have:=B_ (l:=l) hp;omega
 ·rw[nD hp hl];simp
 ·have:=Qq (eu per.toNat l)
  unfold ES at h5;omega
end
theorem Gi {l:List aC} {per:Int} (h:z13 l per=0):okB (ES l per.toNat):=by
 obtain ⟨gs,e,a1,a2,a3,a4,a5,a6,a7,a8,a9,a10,a11⟩:=Bf h;have hsp:=qB (gs:=gs) (fun g hg=>(a5 g hg).1) (by omega);have hl1:(sF 5 gs).length=gs.length:=WZ _ _
 have hl2:(NR gs).length<=2048:=by
  unfold NR;have:=z16 (gs.flatten.map cu);rw[List.length_map]at this ⊢;rw[a8]at this;rw[a8];omega
 have hidx:okB (iV (sF 5 gs) (NR gs)):=by
  unfold iV;refine iF (iF (iF (iG (by omega)) (Tv fun s hs=>?_)) (iG (by omega))) (Tv fun x hx=>?_)
  ·obtain ⟨a,b,c,d,e⟩:=hsp s hs
   unfold iI;exact iF (iF (iF (iF (iG (by omega)) (iG (by omega))) (iG (by omega))) (iG (by omega))) (iG (by omega))
  ·obtain ⟨b1,b2,b3⟩:=wK a6 x hx
   unfold fE;exact iF (iF (iF (iG (by omega)) (sK _)) (iG (by omega))) (Tv fun g hg=>iG (by have:=b3 g hg;omega))
 rw[a1];unfold yI;refine iF (iF (iF (iF ?_ (Tv fun g hg=>Gh (a5 g hg).1)) (wo hidx)) (Ee _)) ?_
 ·intro x hx
  unfold headB at hx;simp only[List.mem_cons,List.not_mem_nil,or_false]at hx;omega
 ·intro x hx
  simp only[List.mem_cons,List.not_mem_nil,or_false]at hx;omega
end Go.Proofs.YtdbfejfhpkakhaaGreat
namespace Go.Proofs.YtdbfejfhpkakhaaGreat
open Go.RowKit Ps
def MQ (window:Int) (aH:List ByteArray) (l:List RV) (w:World) (e:Ending) (w':World):Prop:=∃(A:Option Addr) (c:Nat) (gs:List GV) (zs:List RV),e=.returned (.slice A gs.length c)/\
 Rd w' (fun k=>w.heap.size<=k) 3 A gs.length (fM gs)/\jm (fun z:RV=>keyE window aH z.row) (gs.map (fun g=>g.g)) zs/\zs.Perm l/\Nx w w'/\gs.length<=1000
section
variable {w : World} {D : Nat → Prop} {A Bb : Option Addr} {n c d : Nat} {l : List RV} {window : Int} {aH : List ByteArray}
theorem zZ (h:Rd w D 9 A n (bM l)) (hl:l.length=n) (hn:n<=1000) (hk:∀x∈l,x.ok w D/\gQ x.row.ak=true/\0<=x.row.time/\x.row.time<=1099511627776)
 (hw1:1<=window) (hw2:window<=9223372036854775807) {D2:Nat->Prop} (hb:Rd w D2 1 Bb aH.length (dK aH)) (hbn:aH.length<=1000000):
 Calls Tryz.prog 13 #[.slice A n c,.int .i64 window,.slice Bb aH.length d] w (MQ window aH l w):=by
 obtain ⟨i0,hi0,hz0,hz1,hz2⟩:=info_parts Tryz.fZ;obtain ⟨j0,hj0,hy0,hy1,hy2⟩:=info_parts Tryz.KP;have hN4:Nx w (w.alloc (.cells #[] 44)):=(Ch.refl _ w).alloc _;have NJ:=ah (FB (c:=c) (h.nx (by decide) hN4) hl (by omega));have HN4:=ah hN4;have HB:=ah hb;have HK:=ah hk;have QO:=ah (show l.length<=1000 by omega);have HZW:Hid (¬window=0):=ah (by omega);clear h hl hn hk hb hN4;go_enter Tryz.func13,Tryz.ntmps13;go_wp2_with fail;refine NJ.out.mono ?_;rintro e w5 ⟨v,rfl,hso⟩;have Zv:=ah (WY dw l);generalize bP dw l=zs at *;have hzl:l.length=zs.length:=Zv.out.length_eq.symm;rw[hzl]at hso;obtain ⟨Az,cz,rfl,Uz,hcz2⟩:=hso.form;have HN5:=ah (HN4.out.tr hso.nx);have N15:=ah HN5.out;have SH:=ah (show Rd w5 (fun k=>w.heap.size<k) 9 Az zs.length (bM zs) from hso.rd.more fun k hk=>by have:=hk;simp at this;omega);have Vf:=ah (fun z (hz:z∈zs)=>(⟨(HK.out z (Zv.out.mem_iff.1 hz)).1.ch (D':=D) HN5.out (fun _ _ _ hf=>hf) fun _ h=>h,(HK.out z (Zv.out.mem_iff.1 hz)).2⟩:z.ok w5 D/\gQ z.row.ak=true/\0<=z.row.time/\z.row.time<=1099511627776));have hzn:zs.length<=1000:=by have:=QO.out;omega
 clear hso NJ HK QO Uz hcz2;go_wp2_with fail
 go_loopw [7,18] (fun s7 s18 wr=>∃(k:Nat) (gs:List GV) (Ao:Option Addr) (co:Nat),k<=zs.length/\gs.length<=k/\s18=.int .i64 (k:Int)/\s7=.slice Ao gs.length co/\Hid (Rd wr (fun i=>w.heap.size<=i) 3 Ao gs.length (fM gs))/\Hid (gs≠[]->gU w5.heap.size wr (.slice Ao gs.length co) gs)/\Hid (Nx w5 wr)/\
  Hid (jm (fun z:RV=>keyE window aH z.row) (gs.map (fun g=>g.g)) (zs.take k))/\Hid (pR (gs.map (fun g=>g.g)))) (fun _ s18 _=>zs.length-(intOf s18).toNat)
 case atStart=>exact ⟨0,[],some ⟨w.heap.size,0,none⟩,0,Nat.zero_le _,Nat.zero_le _,rfl,rfl,ah ⟨rfl,fun h=>absurd h (by decide)⟩,ah (fun h=>absurd rfl h),ah (Ch.refl _ _),ah jm.nil,ah List.Pairwise.nil⟩
 case round=>
  obtain ⟨w6,rfl⟩:∃w6:World,w6=wr:=⟨_,rfl⟩;obtain ⟨k,gs,Ao,co,hkz,hgl,rfl,rfl,HG,IG,N6,HS,HT⟩:=hrel;by_cases hlt:k<zs.length
  ·obtain ⟨ad,rfl, -,p0,p1,p2,p3,p4,p5,p6,p7,p8⟩:=qg (SH.out.nx (by decide) N6.out) hlt
   have Zx:=ah (List.take_succ_eq_append_getElem hlt);obtain ⟨hxo,hx1,hx2,hx3⟩:=Vf.out _ (List.getElem_mem hlt);have KW:=hxo.ch (D':=D) N6.out (fun _ _ _ hf=>hf) fun _ h=>h;have HX:=ah hx1;clear hxo hx1;generalize zs[k]=x at *;obtain ⟨⟨kind,time,ak,text,value,null,maker,seq,place⟩,A1,c1⟩:=x;simp only at p0 p1 p2 p3 p4 p5 p6 p7 p8 hx2 hx3;have N7:=ah ((Ch.refl (fun _=>False) w6).alloc (.cells #[.int .i64 kind,.int .i64 time,.slice A1 ak.length c1,.string text,.int .i64 value,.bool null,.int .i64 maker,.int .i64 seq,.int .i64 place] 79));have B7:=ah (aG.new w6 79 #[.int .i64 kind,.int .i64 time,.slice A1 ak.length c1,.string text,.int .i64 value,.bool null,.int .i64 maker,.int .i64 seq,.int .i64 place]);have hlb:=Nu HX.out;have Iy:=ah (fun w' (c':Nx w6 w')=>FX (c:=c1) (d:=d) (KW.1.nx (by decide) c') (by show ak.length<=_;have:ak.length<=4:=hlb.1;omega) ((((HB.out.nx (by decide) HN5.out).nx (by decide) N6.out)).nx (by decide) c') (by omega));have HLB:=ah hlb;simp only at Iy;clear KW hlb;go_upto_region 5 with fail
   clear p0 p1 p2 p3 p4 p5 p6 p7 p8;obtain ⟨w7,hW⟩:∃w7,w6.alloc (.cells #[.int .i64 kind,.int .i64 time,.slice A1 ak.length c1,.string text,.int .i64 value,.bool null,.int .i64 maker,.int .i64 seq,.int .i64 place] 79)=w7:=⟨_,rfl⟩;obtain ⟨g,hg⟩:∃g,w6.heap.size=g:=⟨_,rfl⟩;rw[hW]at N7 B7;rw[hg]at B7;simp only[hW,hg];have HGX:=ah hg;clear hW hg;obtain ⟨q,hq⟩:∃q,q=time.tdiv window:=⟨_,rfl⟩
   have hq0:0<=q/\q<=time:=by
    rw[hq,Int.tdiv_eq_ediv_of_nonneg hx2];exact ⟨Int.ediv_nonneg hx2 (by omega),Int.ediv_le_self _ hx2⟩
   have hq1:time.tdiv window=q:=hq.symm;have hq2:time / window=q:=(by rw[hq,Int.tdiv_eq_ediv_of_nonneg hx2]);have HQ:=ah hq;clear hq;have hg7:g<w7.heap.size:=B7.out.lt;have HK5:=ah (fun w' (c':Nx w7 w')=>(⟨(B7.out.nx c').cell 1,(B7.out.nx c').cell 2⟩:w'.cell? ⟨g,1,none⟩=some (.int .i64 time)/\w'.cell? ⟨g,2,none⟩=some (.slice A1 ak.length c1)));have hqz:¬window=0:=HZW.out;have hqw:IntKind.i64.wrap q=q:=by simp[IntKind.wrap,IntKind.bits,IntKind.signed];omega
   refine sD (fun w'=>w'.cell? ⟨g,1,none⟩=some (.int .i64 time)/\w'.cell? ⟨g,2,none⟩=some (.slice A1 ak.length c1)) (fun _=>false) rfl (HK5.out w7.drew (Ch.refl _ w7).drew) (fun hS0=>?_)
   try simp only[Act.put,aA,au,ay]
   refine z00 (i:=0) (oi:=_) (v:=?_) rfl (fun _ _ _ h=>h) (Or.inl ⟨by rfl,?_⟩) ?_;rotate_left
   ·(intro w hSw;(try dsimp only at hSw);go_split_ands;go_simp;try with_reducible rfl)
   simp only[List.getElem_toArray,List.getElem_cons_zero,List.getElem_cons_succ,Act.put,aA,au,ay];refine z00 (i:=1) (oi:=_) (v:=?_) rfl (fun _ _ _ h=>h) (Or.inl ⟨by rfl,?_⟩) ?_;rotate_left
   ·(intro w hSw;(try dsimp only at hSw);go_split_ands;go_simp;try with_reducible rfl)
   simp only[List.getElem_toArray,List.getElem_cons_zero,List.getElem_cons_succ,Act.put,aA,au,ay];refine z00 (i:=2) (oi:=_) (v:=?_) rfl (fun _ _ _ h=>h) (Or.inl ⟨by rfl,?_⟩) ?_;rotate_left
   ·(intro w hSw;(try dsimp only at hSw);go_split_ands;go_simp;try with_reducible rfl)
   simp only[List.getElem_toArray,List.getElem_cons_zero,List.getElem_cons_succ,Act.put,aA,au,ay];refine z00 (i:=3) (oi:=_) (v:=?_) rfl (fun _ _ _ h=>h) (Or.inl ⟨by rfl,?_⟩) ?_;rotate_left
   ·(intro w hSw;(try dsimp only at hSw);go_split_ands;go_simp;try with_reducible rfl)
   simp only[List.getElem_toArray,List.getElem_cons_zero,List.getElem_cons_succ,Act.put,aA,au,ay];refine z00 (i:=4) (oi:=_) (v:=?_) rfl (fun _ _ _ h=>h) (Or.inl ⟨by rfl,?_⟩) ?_;rotate_left
   ·(intro w hSw;(try dsimp only at hSw);go_split_ands;go_simp;try with_reducible rfl)
   simp only[List.getElem_toArray,List.getElem_cons_zero,List.getElem_cons_succ,Act.put,aA,au,ay];refine z00 (i:=5) (oi:=_) (v:=?_) rfl (fun _ _ _ h=>h) (Or.inl ⟨by rfl,?_⟩) ?_;rotate_left
   ·(intro w hSw;(try dsimp only at hSw);go_split_ands;go_simp;try with_reducible rfl)
   simp only[List.getElem_toArray,List.getElem_cons_zero,List.getElem_cons_succ,Act.put,aA,au,ay];refine z00 (i:=6) (oi:=_) (v:=?_) rfl (fun _ _ _ h=>h) (Or.inl ⟨by rfl,?_⟩) ?_;rotate_left
   ·(intro w hSw;(try dsimp only at hSw);go_split_ands;go_simp;try with_reducible rfl)
   simp only[List.getElem_toArray,List.getElem_cons_zero,List.getElem_cons_succ,Act.put,aA,au,ay];refine z00 (i:=7) (oi:=_) (v:=?_) rfl (fun _ _ _ h=>h) (Or.inl ⟨by rfl,?_⟩) ?_;rotate_left
   ·(intro w hSw;(try dsimp only at hSw);go_split_ands;go_simp;try with_reducible rfl)
   simp only[List.getElem_toArray,List.getElem_cons_zero,List.getElem_cons_succ,Act.put,aA,au,ay];refine z00 (i:=8) (oi:=_) (v:=?_) rfl (fun _ _ _ h=>h) (Or.inl ⟨by rfl,?_⟩) ?_;rotate_left
   ·(intro w hSw;(try dsimp only at hSw);go_split_ands;go_simp;try with_reducible rfl)
   simp only[List.getElem_toArray,List.getElem_cons_zero,List.getElem_cons_succ,Act.put,aA,au,ay];refine z02 (rs:=[9]) (by kernel_rfl) (by simp) (z01.cons (o:=_) rfl (fun K hK=>?_) z01.nil);go_simp;refine (Iy.out _ (N7.out.tr (Ch.refl _ w7).drew)).mono ?_;rintro e w8 ⟨v8,rfl,o8⟩;obtain ⟨Ap,cp,rfl, -, -⟩:=o8.form
   have hpl:(aX ak aH).length<=4:=by
    have h1:=List.length_filter_le (fun x:bT=>inB aH x.name) ak;have h2:ak.length<=4:=HLB.out.1;unfold aX;omega
   have Vg:=ah (Fe (c:=cp) o8.rd rfl (by omega) (fun x hx=>(z2J.1 HX.out).2.1 x (List.mem_filter.1 hx).1));have N8:=ah ((Ch.refl (fun _=>False) w7).drew.tr o8.nx);rw[show fF (textF (aX ak aH))=partT ak aH from by unfold partT;rw[if_pos (z2I HX.out aH)]]at Vg;clear o8 Iy;go_wp2_with fail;refine hK.out _ _ (fun _=>HK5.out _ N8.out) (fun aj=>?_);have hHeld:=aj (by decide);clear hK K aj
   try simp only[Act.put,aA,au,ay]
   refine z02 (rs:=[10]) (by kernel_rfl) (by simp) (z01.cons (o:=_) rfl (fun K hK=>?_) z01.nil);go_simp;refine Vg.out.mono ?_;rintro e w9 ⟨rfl,n9⟩;have N9:=ah (N8.out.tr n9);have N69:=ah (N7.out.tr N9.out);have B9:=ah (B7.out.nx N9.out);clear n9 Vg;go_wp2_with fail;refine hK.out _ _ (fun _=>HK5.out _ N9.out) (fun aj=>?_);have hHeld:=aj (by decide);clear hK K aj
   try simp only[Act.put,aA,au,ay]
   refine z00 (i:=11) (oi:=_) (v:=?_) rfl (fun _ _ _ h=>h) (Or.inl ⟨by rfl,?_⟩) ?_;rotate_left
   ·(intro w hSw;(try dsimp only at hSw);go_split_ands;go_simp;try with_reducible rfl)
   simp only[List.getElem_toArray,List.getElem_cons_zero,List.getElem_cons_succ,Act.put,aA,au,ay];refine z00 (i:=12) (oi:=_) (v:=?_) rfl (fun _ _ _ h=>h) (Or.inl ⟨by rfl,?_⟩) ?_;rotate_left
   ·(intro w hSw;(try dsimp only at hSw);go_split_ands;go_simp;try with_reducible rfl)
   simp only[List.getElem_toArray,List.getElem_cons_zero,List.getElem_cons_succ,Act.put,aA,au,ay];refine kE (by kernel_rfl) ?_ _;obtain ⟨pt,hpt⟩:∃pt,partT ak aH=pt:=⟨_,rfl⟩;have NK:=ah hpt;simp only[hpt];clear hpt;have HKEY:=ah (show keyE window aH (⟨kind,time,ak,text,value,null,maker,seq,place⟩:aC)=(q,pt) from by unfold keyE;simp only;rw[NK.out,←HQ.out]);have HG9:=ah (HG.out.nx (by decide) N69.out);obtain ⟨G,hG⟩:∃G,gs.length=G:=⟨_,rfl⟩;have yS:=ah hG;have Vs:=ah (show gs≠[]->gU w5.heap.size w9 (.slice Ao gs.length co) gs from fun h=>(IG.out h).tr N69.out);rw[hG]at HG9 hgl;simp only[hG];clear hG;go_upto_block 2 with fail
   go_cut [12] (fun s12 wx=>∃n:Nat,n<=G/\s12=.int .i64 (n:Int)/\Hid (w9=wx)/\Hid (∀i (hi:i<gs.length),i<n->ltK gs[i].g.key (q,pt))/\Hid (MS gs n (q,pt)))
   case first=>
    go_wp2_with fail;go_loopw [12] (fun s12 wr=>∃m:Nat,m<=G/\s12=.int .i64 (m:Int)/\Hid (w9=wr)/\Hid (∀i (hi:i<gs.length),i<m->ltK gs[i].g.key (q,pt))) (fun s12 _=>G-(intOf s12).toNat)
    case atStart=>exact ⟨0,Nat.zero_le _,rfl,ah rfl,ah (fun i hi h0=>by omega)⟩
    case round=>
     obtain ⟨m,hm,rfl,hw9,HM⟩:=hrel;have hw:=hw9.out;subst hw;by_cases hmg:m<G
     ·have hml:m<gs.length:=by have:=yS.out;omega
      obtain ⟨ad,rfl,g0,g1, -⟩:=BH HG9.out hml
      have HK1:=ah (fun (h:ltK gs[m].g.key (q,pt)) i (hi:i<gs.length) (him:i<m+1)=>show ltK gs[i].g.key (q,pt) from by
       by_cases e:i=m
       ·subst e;exact h
       ·exact HM.out i hi (by omega))
      have HK2:=ah (fun (h:¬ltK gs[m].g.key (q,pt))=>show MS gs m (q,pt) from fun hi=>h);generalize hx:gs[m]=x at *;obtain ⟨⟨X,Y,rows⟩,An,cn⟩:=x;simp only at g0 g1;clear hx;by_cases h1:X<q
      ·have HL:=ah (HK1.out (Or.inl h1))
       have hd1:decide (X<q)=true:=decide_eq_true h1;clear HK1 HK2;go_wp2_with fail;go_roundw
       case rel=>exact ⟨m+1,by omega,by go_num,by first|exact ah rfl|exact ah trivial,HL⟩
       case measure=>simp[intOf];omega
      ·have hd1:decide (X<q)=false:=decide_eq_false h1
       by_cases h2:X=q
       ·have h2b:(X==q)=true:=by rw[beq_iff_eq];exact h2
        cases hbl:bD Y pt
        ·have HL:=ah (HK2.out (by
          rintro (h|⟨-,h⟩)
          ·exact h1 h
          ·rw[show bD Y pt=true from h]at hbl;cases hbl))
         have hq9:Op.bytesLess Y.toList pt.toList=false:=by rw[Nr];exact hbl
         clear HK1 HK2 hbl h2;go_wp2_with fail;go_meet
         exact ⟨m,by omega,rfl,by first|exact ah rfl|exact ah trivial,HM,HL⟩
        ·have HL:=ah (HK1.out (Or.inr ⟨h2,hbl⟩))
         have hq9:Op.bytesLess Y.toList pt.toList=true:=by rw[Nr];exact hbl
         clear HK1 HK2 hbl h2;go_wp2_with fail;go_roundw
         case rel=>exact ⟨m+1,by omega,by go_num,by first|exact ah rfl|exact ah trivial,HL⟩
         case measure=>simp[intOf];omega
       ·have h2b:(X==q)=false:=by rw[beq_eq_false_iff_ne];exact h2
        have HL:=ah (HK2.out (by
         rintro (h|⟨h, -⟩)
         ·exact h1 h
         ·exact h2 h))
        clear HK1 HK2 h2;go_wp2_with fail;go_meet
        exact ⟨m,by omega,rfl,by first|exact ah rfl|exact ah trivial,HM,HL⟩
     ·have HL:=ah (show MS gs m (q,pt) from fun hi=>absurd hi (by have:=yS.out;omega))
      go_wp2_with fail;go_meet
      exact ⟨m,by omega,rfl,by first|exact ah rfl|exact ah trivial,HM,HL⟩
   case rest=>
    obtain ⟨n,hn,rfl,hw9,HM,u_⟩:=hcut;have hw:=hw9.out;subst hw;go_upto_region 9 with fail
    go_cut [87] (fun s87 wx=>∃nf:Bool,s87=.bool nf/\Hid (w9=wx)/\Hid (nf=false->Sr gs n (q,pt))/\Hid (nf=true->MZ gs n (q,pt)))
    case first=>
     by_cases hnG:n<G
     ·have hml:n<gs.length:=by have:=yS.out;omega
      obtain ⟨ad,rfl,g0,g1, -⟩:=BH HG9.out hml;have HK1:=ah (fun (h:gs[n].g.key=(q,pt))=>show Sr gs n (q,pt) from ⟨hml,h⟩);have HK2:=ah (fun (h:gs[n].g.key≠(q,pt))=>show MZ gs n (q,pt) from fun hi=>h);generalize hx:gs[n]=x at *;obtain ⟨⟨X,Y,rows⟩,An,cn⟩:=x;simp only at g0 g1;clear hx;have hne:((n:Int)==(G:Int))=false:=by rw[beq_eq_false_iff_ne];omega
      have Iz:=ah hne;by_cases h2:X=q
      ·have h2b:(X !=q)=false:=by rw[bne_eq_false_iff_eq];exact h2
       by_cases h3:Y=pt
       ·have HL:=ah (HK1.out (by rw[h2,h3];rfl))
        have H3:=ah (show (Y.toList==pt.toList)=true from by rw[h3,beq_self_eq_true]);clear HK1 HK2 h2 h3;go_wp2_with fail;go_meet
        exact ⟨false,by first|rfl|(rw[H3.out];rfl)|(rw[Iz.out,H3.out];rfl),by first|exact ah rfl|exact ah trivial,ah (fun _=>HL.out),ah (by intro h;cases h)⟩
       ·have HL:=ah (HK2.out (by intro h;exact h3 (congrArg Prod.snd h)))
        have H3:=ah (show (Y.toList==pt.toList)=false from by rw[Dq,decide_eq_false h3]);clear HK1 HK2 h2 h3;go_wp2_with fail;go_meet
        exact ⟨true,by first|rfl|(rw[H3.out];rfl)|(rw[Iz.out,H3.out];rfl)|(rw[Iz.out];rfl),by first|exact ah rfl|exact ah trivial,ah (by intro h;cases h),ah (fun _=>HL.out)⟩
      ·have h2b:(X !=q)=true:=by rw[bne_iff_ne];exact h2
       have HL:=ah (HK2.out (by intro h;exact h2 (congrArg Prod.fst h)));clear HK1 HK2 h2;go_wp2_with fail;go_meet
       exact ⟨true,by first|rfl|(rw[H3.out];rfl)|(rw[Iz.out,H3.out];rfl)|(rw[Iz.out];rfl),by first|exact ah rfl|exact ah trivial,ah (by intro h;cases h),ah (fun _=>HL.out)⟩
     ·have hnG2:n=G:=by omega
      have HL:=ah (show MZ gs n (q,pt) from fun hi=>absurd hi (by have:=yS.out;omega));subst hnG2;go_wp2_with fail;go_meet
      exact ⟨true,rfl,by first|exact ah rfl|exact ah trivial,ah (by intro h;cases h),ah (fun _=>HL.out)⟩
    case rest=>
     obtain ⟨nf,rfl,hw9,HNF,YB⟩:=hcut;have hw:=hw9.out;subst hw;go_upto_if 87 with fail
     go_cut [7] (fun s7 wx=>∃(gs2:List GV) (A2:Option Addr) (c2:Nat),s7=.slice A2 gs2.length c2/\gs2.length<=k+1/\(∃hn2:n<gs2.length,Hid (gs2[n].g.key=(q,pt)))/\Hid (Nx w9 wx)/\Hid (gU w5.heap.size wx (.slice A2 gs2.length c2) gs2)/\
      Hid (jm (fun z:RV=>keyE window aH z.row) (gs2.map (fun g=>g.g)) (zs.take k))/\Hid (pR (gs2.map (fun g=>g.g))))
     case first=>
      cases nf
      ·obtain ⟨hi,hke⟩:=HNF.out rfl
       have HL:=ah (show ∃hn2:n<gs.length,Hid (gs[n].g.key=(q,pt)) from ⟨hi,ah hke⟩);have II:=ah (Vs.out (by rintro rfl;cases hi));clear hke;go_wp2_with fail;go_meet
       exact ⟨gs,Ao,co,by rw[yS.out],by rw[yS.out];omega,HL.out,ah (Ch.refl _ _),II,HS,HT⟩
      ·have hnl:n<=gs.length:=by rw[yS.out];exact hn
       have SL:=ah (PG (key:=fun z:RV=>keyE window aH z.row) (x:=(⟨⟨kind,time,ak,text,value,null,maker,seq,place⟩,A1,c1⟩:RV)) hnl HKEY.out HS.out HT.out HM.out u_.out (YB.out rfl))
       have HV0:Hid (∃v0,gU w5.heap.size w9 v0 gs):=ah (by
        by_cases e:gs=[]
        ·exact ⟨.slice none 0 0,by rw[e];exact gU.nil _ _⟩
        ·exact ⟨_,Vs.out e⟩)
       have hGco:G<=co:=by
        by_cases e:gs=[]
        ·have h1:=yS.out
         rw[e]at h1;have h2:(0:Nat)=G:=h1;omega
        ·obtain ⟨A',c',e2,h1, -⟩:=h_ (Vs.out e).own
         injection e2 with _ _ e3;have:=yS.out;omega
       have EI:=ah (fun w' (c':Nx w9 w')=>show Rd w' _ 3 Ao n (fM (gs.take n)) from by
        have h1:=(HG9.out.nx (by decide) c').take hn;unfold fM at h1 ⊢;rw[ZY GV.aQ]at h1;exact h1)
       have Yx:=ah (fun w' (c':Nx w9 w')=>show Rd w' _ 3 (if co=n then Ao else Ao.map (·.add (n * 3))) (G-n) (fM (gs.drop n)) from by
        have h1:=(HG9.out.nx (by decide) c').cut (k:=n) (cap:=co) hn hGco;unfold fM at h1 ⊢;rw[ZX GV.aQ]at h1;exact h1)
       have hnc:n<=co:=(by omega);clear hnl
       go_wp2_with (at_builtin;first
        |(refine z05 rfl (.tmp 88) (.tmp 91) _ rfl 44 j0 _ 3 48 Tryz.underlying41 hj0 hy0 hy1 hy2 rfl (by omega) rfl (aF.lit w9 w9 44 (Ch.refl _ _) 3) _ Ao n co _ rfl (EI.out _ ((Ch.refl _ w9).alloc _)) (kR _) (by simp only[maxLen];omega) (by omega) ?_;intro v10 w10 o10 m10;rw[Nat.zero_add,List.nil_append]at o10;have O10:=ah o10;clear o10 m10)
        |(refine z04 _ rfl (.tmp 93) (.tmp 97) _ rfl w9.heap.size 44 j0 _ 3 48 Tryz.underlying41 hj0 hy0 hy1 hy2 rfl (by omega) v10 n _ rfl (O10.out.alloc _).own _ (some ⟨w10.heap.size,0,none⟩) 1 1 _ rfl (Rd.Xo w10 q pt) (kR _) (by simp only[maxLen];omega) (by omega) (by have:=O10.out.nx.size;simp;omega) ?_;intro v11 w11 RG gr11 at11;obtain ⟨o11,m11⟩:=Di O10.out ((Ch.refl _ _).alloc _) RG gr11 at11;have O11:=ah o11;clear RG gr11 at11 o11 m11)
        |(refine z05 rfl (.tmp 99) (.tmp 102) _ rfl 44 j0 _ 3 48 Tryz.underlying41 hj0 hy0 hy1 hy2 rfl (by omega) rfl O11.out _ _ (G-n) _ _ rfl (Yx.out _ O11.out.nx) (kR _) (by simp only[maxLen];omega) (by omega) ?_;intro v12 w12 o12 m12;have O12:=ah o12;clear o12 m12))
       all_goals
        obtain ⟨A12,c12,hv12, -, -⟩:=h_ O12.out.own;subst hv12;have Ut:n<=gs.length:=by rw[yS.out];exact hn
        have hlen:=KH (q:=q) (p:=pt) Ut;have hlen2:n+1+(G-n)=(iM gs n q pt).length:=by rw[hlen,yS.out];omega
        have II:Hid (gU w5.heap.size w12 (.slice A12 (iM gs n q pt).length c12) (iM gs n q pt)):=ah (by
         obtain ⟨v0,hv0⟩:=HV0.out;have h1:=(O12.out.weak (N6.out.tr N69.out)).own;rw[hlen2]at h1;rw[hlen]at h1 ⊢;exact hv0.ins Ut h1 O12.out.nx)
        rw[hlen2];have XF:n<(iM gs n q pt).length:=(by omega);have hi9:(iM gs n q pt)[n].g.key=(q,pt):=by rw[KI Ut XF];rfl
        have hlk:(iM gs n q pt).length<=k+1:=by have:=yS.out;omega
        clear hlen2 hlen;go_meet
        exact ⟨iM gs n q pt,A12,c12,rfl,hlk,⟨XF,ah hi9⟩,ah O12.out.nx,II,ah SL.out.1,ah SL.out.2⟩
     case rest=>
      obtain ⟨gs2,A2,c2,rfl,hgl2,⟨hn2,HK2⟩,N2,II,HS2,HT2⟩:=hcut;obtain ⟨w10,rfl⟩:∃w10:World,w10=wc:=⟨_,rfl⟩;have N510:=ah ((N6.out.tr N69.out).tr N2.out);have B10:=ah (B9.out.nx N2.out)
      obtain ⟨g8,hA8⟩:∃g8,A2=some ⟨g8,0,none⟩:=by
       rcases II.out.own.2 with ⟨hv,h0⟩|⟨g',cap,cur,hv,_⟩
       ·omega
       ·injection hv with hv
        exact ⟨g',hv⟩
      subst hA8
      have yR:=ah (show ∀i (hi:i<gs2.length),gs2[i].g.rows.length<=1000 from fun i hi=>by
       have h1:=HS2.out.rows gs2[i].g (List.mem_map_of_mem (f:=fun g:GV=>g.g) (List.getElem_mem hi));rw[h1];have h2:=List.length_filter_le (fun x:RV=>decide (keyE window aH x.row=gs2[i].g.key)) (zs.take k);rw[List.length_take]at h2;omega)
      have YF:=ah (show keyE window aH (⟨kind,time,ak,text,value,null,maker,seq,place⟩:aC)=gs2[n].g.key from HKEY.out.trans HK2.out.symm);obtain ⟨xn,hxn⟩:∃xn,gs2[n]=xn:=⟨_,rfl⟩;obtain ⟨⟨win,part,rows⟩,An,cn⟩:=xn;have HX8:=ah hxn;have hgn:(n:Int)<(gs2.length:Int):=(by omega);clear hxn HK2;go_wp2_with fail
      have hf2:w10.cell? ⟨g8,n * 3+2,none⟩=some (.slice An rows.length cn):=by
       have h1:=II.out.own.cellAt (n * 3+2) (by omega);rw[NZ hn2,HX8.out]at h1;exact h1
      have HOW:=ah (show (w10.drew.alloc (.cells #[.int .i64 kind,.int .i64 time,.slice A1 ak.length c1,.string text,.int .i64 value,.bool null,.int .i64 maker,.int .i64 seq,.int .i64 place] 79)).ownsRow w5.heap.size 79 9 (.slice An rows.length cn) rows.length (bM rows) from by
       have h1:=II.out.rows n hn2;rw[HX8.out]at h1;exact (z06 h1 (Ch.refl (fun _=>False) _).drew (fun _ _ hf=>hf)).alloc _)
      have CZ:Hid (Rd (w10.drew.alloc (.cells #[.int .i64 kind,.int .i64 time,.slice A1 ak.length c1,.string text,.int .i64 value,.bool null,.int .i64 maker,.int .i64 seq,.int .i64 place] 79)) (fun k=>k=w10.heap.size) 9 (some ⟨w10.heap.size,0,none⟩) 1 (bM [⟨⟨kind,time,ak,text,value,null,maker,seq,place⟩,A1,c1⟩])):=ah (by
       have h:=Rd.wW w10.drew ⟨⟨kind,time,ak,text,value,null,maker,seq,place⟩,A1,c1⟩;have e:w10.drew.heap.size=w10.heap.size:=by first|exact World.size_alloc _ _|rfl
       rw[e]at h;exact h)
      have HN15:=ah (show Nx w10 (w10.drew.alloc (.cells #[.int .i64 kind,.int .i64 time,.slice A1 ak.length c1,.string text,.int .i64 value,.bool null,.int .i64 maker,.int .i64 seq,.int .i64 place] 79)) from ((Ch.refl (fun _=>False) w10).drew).alloc _);have EL:=ah (II.out.tr HN15.out);have Yv:=ah (show w5.heap.size<=(w10.drew.alloc (.cells #[.int .i64 kind,.int .i64 time,.slice A1 ak.length c1,.string text,.int .i64 value,.bool null,.int .i64 maker,.int .i64 seq,.int .i64 place] 79)).heap.size from Nat.le_trans N510.out.size HN15.out.size)
      have hrl:rows.length<=1000:=by
       have h1:=yR.out n hn2;rw[HX8.out]at h1;exact h1
      have hS1:(fun w'=>w'.cell? ⟨g8,n * 3+2,none⟩=some (.slice An rows.length cn)/\w'.cell? ⟨g,0,none⟩=some (.int .i64 kind)/\w'.cell? ⟨g,1,none⟩=some (.int .i64 time)/\w'.cell? ⟨g,2,none⟩=some (.slice A1 ak.length c1)/\w'.cell? ⟨g,3,none⟩=some (.string text)/\w'.cell? ⟨g,4,none⟩=some (.int .i64 value)/\w'.cell? ⟨g,5,none⟩=some (.bool null)/\w'.cell? ⟨g,6,none⟩=some (.int .i64 maker)/\w'.cell? ⟨g,7,none⟩=some (.int .i64 seq)/\w'.cell? ⟨g,8,none⟩=some (.int .i64 place)) w10.drew:=⟨hf2,B10.out.cell 0,B10.out.cell 1,B10.out.cell 2,B10.out.cell 3,B10.out.cell 4,B10.out.cell 5,B10.out.cell 6,B10.out.cell 7,B10.out.cell 8⟩
      have hS2:(fun w'=>w'.cell? ⟨g8,n * 3+2,none⟩=some (.slice An rows.length cn)/\w'.cell? ⟨g,0,none⟩=some (.int .i64 kind)/\w'.cell? ⟨g,1,none⟩=some (.int .i64 time)/\w'.cell? ⟨g,2,none⟩=some (.slice A1 ak.length c1)/\w'.cell? ⟨g,3,none⟩=some (.string text)/\w'.cell? ⟨g,4,none⟩=some (.int .i64 value)/\w'.cell? ⟨g,5,none⟩=some (.bool null)/\w'.cell? ⟨g,6,none⟩=some (.int .i64 maker)/\w'.cell? ⟨g,7,none⟩=some (.int .i64 seq)/\w'.cell? ⟨g,8,none⟩=some (.int .i64 place)) (w10.drew.alloc (.cells #[.int .i64 kind,.int .i64 time,.slice A1 ak.length c1,.string text,.int .i64 value,.bool null,.int .i64 maker,.int .i64 seq,.int .i64 place] 79)):=⟨by
       have h1:=EL.out.own.cellAt (n * 3+2) (by omega);rw[NZ hn2,HX8.out]at h1;exact h1,(B10.out.nx HN15.out).cell 0,(B10.out.nx HN15.out).cell 1,(B10.out.nx HN15.out).cell 2,(B10.out.nx HN15.out).cell 3,(B10.out.nx HN15.out).cell 4,(B10.out.nx HN15.out).cell 5,(B10.out.nx HN15.out).cell 6,(B10.out.nx HN15.out).cell 7,(B10.out.nx HN15.out).cell 8⟩
      have XB:=B10.out.lt;have XF:(n:Int)<((gs2.length:Nat):Int):=(by omega);have RX:=(II.out.own.lt g8 rfl).2;clear hf2;refine sD (fun _=>True) (fun _=>false) rfl trivial (fun hS0=>?_);refine z00 (i:=0) (oi:=_) (v:=?_) rfl (fun _ _ _ h=>h) (Or.inl ⟨by rfl,?_⟩) ?_;rotate_left
      ·(intro w hSw;(try dsimp only at hSw);go_split_ands;go_simp;try with_reducible rfl)
      try simp only[Act.put,aA,au,ay]
      refine z00 (i:=1) (oi:=_) (v:=?_) rfl (fun _ _ _ h=>h) (Or.inl ⟨by rfl,?_⟩) ?_;rotate_left
      ·(intro w hSw;(try dsimp only at hSw);go_split_ands;go_simp;try with_reducible rfl)
      try simp only[Act.put,aA,au,ay]
      refine z00 (i:=2) (oi:=_) (v:=?_) rfl (fun _ _ _ h=>h) (Or.inl ⟨by rfl,?_⟩) ?_;rotate_left
      ·(intro w hSw;(try dsimp only at hSw);go_split_ands;go_simp;try with_reducible rfl)
      try simp only[Act.put,aA,au,ay]
      refine z00 (i:=3) (oi:=_) (v:=?_) rfl (fun _ _ _ h=>h) (Or.inl ⟨by rfl,?_⟩) ?_;rotate_left
      ·(intro w hSw;(try dsimp only at hSw);go_split_ands;go_simp;try with_reducible rfl)
      try simp only[Act.put,aA,au,ay]
      refine z00 (i:=4) (oi:=_) (v:=?_) rfl (fun _ _ _ h=>h) (Or.inl ⟨by rfl,?_⟩) ?_;rotate_left
      ·(intro w hSw;(try dsimp only at hSw);go_split_ands;go_simp;try with_reducible rfl)
      try simp only[Act.put,aA,au,ay]
      refine z00 (i:=5) (oi:=_) (v:=?_) rfl (fun _ _ _ h=>h) (Or.inl ⟨by rfl,?_⟩) ?_;rotate_left
      ·(intro w hSw;(try dsimp only at hSw);go_split_ands;go_simp;try with_reducible rfl)
      try simp only[Act.put,aA,au,ay]
      refine W_ (fun w'=>w'.cell? ⟨g8,n * 3+2,none⟩=some (.slice An rows.length cn)/\w'.cell? ⟨g,0,none⟩=some (.int .i64 kind)/\w'.cell? ⟨g,1,none⟩=some (.int .i64 time)/\w'.cell? ⟨g,2,none⟩=some (.slice A1 ak.length c1)/\w'.cell? ⟨g,3,none⟩=some (.string text)/\w'.cell? ⟨g,4,none⟩=some (.int .i64 value)/\w'.cell? ⟨g,5,none⟩=some (.bool null)/\w'.cell? ⟨g,6,none⟩=some (.int .i64 maker)/\w'.cell? ⟨g,7,none⟩=some (.int .i64 seq)/\w'.cell? ⟨g,8,none⟩=some (.int .i64 place)) (fun i=>decide (9<=i)) (fun _=>trivial) ?_;refine z00 (i:=6) (oi:=_) (v:=?_) rfl (fun _ _ _ h=>h) (Or.inl ⟨by rfl,?_⟩) ?_;rotate_left
      ·(intro w hSw;(try dsimp only at hSw);go_split_ands;go_simp;try with_reducible rfl)
      try simp only[Act.put,aA,au,ay]
      refine z00 (i:=7) (oi:=_) (v:=?_) rfl (fun _ _ _ h=>h) (Or.inl ⟨by rfl,?_⟩) ?_;rotate_left
      ·(intro w hSw;(try dsimp only at hSw);go_split_ands;go_simp;try with_reducible rfl)
      try simp only[Act.put,aA,au,ay]
      refine z02 (rs:=[8]) (by kernel_rfl) (by simp) (z01.cons (o:=_) rfl (fun K hK=>?_) z01.nil);go_simp;refine hK.out _ _ (fun _=>hS2) (fun aj=>?_);have hHeld:=aj (by decide);clear hK K aj
      try simp only[Act.put,aA,au,ay]
      refine z02 (rs:=[9]) (by kernel_rfl) (by simp) (z01.cons (o:=_) rfl (fun K hK=>?_) z01.nil);refine Ns _ rfl (.tmp 110) (.tmp 112) _ rfl w5.heap.size 79 i0 _ 9 96 Tryz.underlying34 hi0 hz0 hz1 hz2 rfl (by omega) (.slice An rows.length cn) rows.length (bM rows) rfl HOW.out _ (some ⟨w10.heap.size,0,none⟩) 1 1 _ rfl CZ.out (IY _) (by simp only[maxLen];omega) (by omega) Yv.out ?_;intro v20 w20 gV gr20 at20;obtain ⟨A20,c20,hv20, -, -⟩:=h_ gV;subst hv20;have ch20:Ch (fun k=>(Value.slice An rows.length cn).ownBlock=some k) (w10.drew.alloc (.cells #[.int .i64 kind,.int .i64 time,.slice A1 ak.length c1,.string text,.int .i64 value,.bool null,.int .i64 maker,.int .i64 seq,.int .i64 place] 79)) w20:=(Ch.refl _ _).grown gr20 (fun k hk _=>hk)
      have HG20:=ah (show gU w5.heap.size (w20.setCell ⟨g8,n * 3+2,none⟩ (.slice A20 (rows.length+1) c20)) (.slice (some ⟨g8,0,none⟩) gs2.length c2) (gs2.set n (gs2[n].add ⟨⟨kind,time,ak,text,value,null,maker,seq,place⟩,A1,c1⟩ A20 c20)) from by
       have h1:=gU.add EL.out hn2 (w7:=w20) (y:=⟨⟨kind,time,ak,text,value,null,maker,seq,place⟩,A1,c1⟩) (A:=A20) (c:=c20) (by rw[HX8.out];exact gV) (by rw[HX8.out];exact ch20) (by
        rw[HX8.out];rcases at20 with e|e
        ·exact .inl e
        ·exact .inr ⟨_,e,Nat.le_refl _⟩)
       rw[HX8.out]at h1 ⊢;exact h1)
      have o20:w20.ownsRow w5.heap.size 44 3 (.slice (some ⟨g8,0,none⟩) gs2.length c2) gs2.length (fM gs2):=z06 EL.out.own ch20 (fun j hj=>IQ EL.out.own HOW.out (by decide) j hj)
      have f20:w20.cell? ⟨g8,n * 3+2,none⟩=some (.slice An rows.length cn):=by
       have h1:=o20.cellAt (n * 3+2) (by omega);rw[NZ hn2,HX8.out]at h1;exact h1
      have z20:w20.frozen? ⟨g8,n * 3+2,none⟩=false:=o20.frozenAt _;have Lc:w5.heap.size<=g8:=(II.out.own.lt g8 rfl).1;have cc20:Ch (fun j=>w5.heap.size<=j) w10 w20:=(HN15.out.mono (fun _ _ hf=>hf.elim)).trans (ch20.mono fun j _ hj=>(HOW.out.lt j hj).1) fun _ _ hh=>hh;have Vw:=ah (Ch.setCell cc20 (p:=⟨g8,n * 3+2,none⟩) (fun _=>Lc) (.slice A20 (rows.length+1) c20));have HN20:=ah (show Nx w5 _ from N510.out.trans Vw.out fun i hi hs=>absurd hs (by omega))
      have HS20:=ah (show jm (fun z:RV=>keyE window aH z.row) ((gs2.set n (gs2[n].add ⟨⟨kind,time,ak,text,value,null,maker,seq,place⟩,A1,c1⟩ A20 c20)).map (fun g=>g.g)) (zs.take (k+1)) from by
       rw[Zx.out,z36 hn2];exact HS2.out.add (x:=(⟨⟨kind,time,ak,text,value,null,maker,seq,place⟩,A1,c1⟩:RV)) (n:=n) (by rw[List.length_map];exact hn2) (by rw[List.getElem_map];exact YF.out))
      have HT20:=ah (show pR ((gs2.set n (gs2[n].add ⟨⟨kind,time,ak,text,value,null,maker,seq,place⟩,A1,c1⟩ A20 c20)).map (fun g=>g.g)) from by
       rw[z36 hn2];exact Ou HT2.out (by rw[List.length_map];exact hn2) _)
      have HR20:=ah (show Rd (w20.setCell ⟨g8,n * 3+2,none⟩ (.slice A20 (rows.length+1) c20)) (fun i=>w.heap.size<=i) 3 (some ⟨g8,0,none⟩) (gs2.set n (gs2[n].add ⟨⟨kind,time,ak,text,value,null,maker,seq,place⟩,A1,c1⟩ A20 c20)).length (fM (gs2.set n (gs2[n].add ⟨⟨kind,time,ak,text,value,null,maker,seq,place⟩,A1,c1⟩ A20 c20))) from by
       have h1:=HG20.out.own;rw[List.length_set]at h1 ⊢;exact (Rd.bW h1).more fun i hi=>by have h1:=N15.out.size;have h2:=hi.2.1;omega)
      have uF:(gs2.set n (gs2[n].add ⟨⟨kind,time,ak,text,value,null,maker,seq,place⟩,A1,c1⟩ A20 c20)).length=gs2.length:=List.length_set;clear gV gr20 at20 ch20 o20 cc20;refine hK.out _ _ (fun h=>absurd h (by decide)) (fun aj=>?_);clear hK K aj
      try simp only[Act.put,aA,au,ay]
      refine z02 (rs:=[10]) (by kernel_rfl) (by simp) (z01.cons (o:=_) rfl (fun K hK=>?_) z01.nil);go_simp;refine hK.out _ _ (fun h=>absurd h (by decide)) (fun aj=>?_);clear hK K aj
      try simp only[Act.put,aA,au,ay]
      refine z02 (rs:=[11]) (by kernel_rfl) (by simp) (z01.cons (o:=_) rfl (fun K hK=>?_) z01.nil);go_simp;refine hK.out _ _ (fun h=>absurd h (by decide)) (fun aj=>?_);clear hK K aj
      try simp only[Act.put,aA,au,ay]
      refine z02 (rs:=[12]) (by kernel_rfl) (by simp) (z01.cons (o:=_) rfl (fun K hK=>?_) z01.nil);go_simp;refine hK.out _ _ (fun h=>absurd h (by decide)) (fun aj=>?_);clear hK K aj
      try simp only[Act.put,aA,au,ay]
      refine kE (by kernel_rfl) ?_ _;go_wp2_with fail;go_roundw
      case rel=>exact ⟨k+1,gs2.set n (gs2[n].add ⟨⟨kind,time,ak,text,value,null,maker,seq,place⟩,A1,c1⟩ A20 c20),some ⟨g8,0,none⟩,c2,by omega,by omega,by go_num,by rw[uF],HR20,ah (fun _=>by first|exact HG20.out|(rw[uF];exact HG20.out)),HN20,HS20,HT20⟩
      case measure=>simp[intOf];omega
  ·have HSE:=ah (show zs.take k=zs from List.take_of_length_le (by omega))
   have HR9:=ah (HN5.out.tr N6.out);go_wp2_with fail;go_ret;exact ⟨Ao,co,gs,zs,rfl,HG.out,by rw[←HSE.out];exact HS.out,Zv.out,HR9.out,by omega⟩
end
end Go.Proofs.YtdbfejfhpkakhaaGreat
