/- Contracts and plain laws that the last text rests on. Conditions: each theorem states its own. -/
import Derived.Test.YtdbfejfhpkakhaaGreatKKd2Q11
import Derived.Test.YtdbfejfhpkakhaaGreatKKd2Q20
import Derived.Test.YtdbfejfhpkakhaaGreatKKd2PbShk
import Derived.Shelf.SlIter.Nil
set_option maxRecDepth 100000
set_option maxHeartbeats 16000000
set_option linter.unusedVariables false
set_option linter.unusedSimpArgs false
namespace Go.Proofs.YtdbfejfhpkakhaaGreat
open Go.RowKit Go.Maps Go.Sort Go.Shelf
theorem Tryz.KO:(Tryz.prog.info? 113).map (fun i=>(i.zero,i.size,i.bytes))=some (some (.agg #[.string ⟨#[]⟩,.int .i64 0,.int .i64 0,.slice none 0 0,.string ⟨#[]⟩,.int .i64 0,.bool false,.int .i64 0,.int .i64 0,.int .i64 0]),10,112):=by kernel_rfl
theorem DV (l:List (ByteArray×RV)):∀u∈DW l,u.oneCell'=true:=by
 intro u hu;obtain ⟨x,_,hx⟩:=List.mem_flatMap.1 hu;simp[Zt,RV.cs]at hx;rcases hx with rfl|rfl|rfl|rfl|rfl|rfl|rfl|rfl|rfl|rfl<;>rfl
theorem Tryz.sortsB (m:Nat):AnyZ.SortsIn Tryz.prog Tryz.sortedB_ren Fence.wide m:=
 ⟨fun blk off cap ss W hH hblk hsz=>callsIn_wide.2 (Tryz.slices_Sort_string blk off cap ss W hH hblk hsz),fun p cap W=>callsIn_wide.2 (Tryz.slices_Sort_string_none p cap W)⟩
theorem MB (m:Nat) (W:World):Calls Tryz.prog 58 #[.map (some m)] W fun e w'=>
 e=.returned (.func (.func 81) #[] #[.pointer (some ⟨W.heap.size,0,none⟩)])/\w'=W.alloc (.cells #[.map (some m)] 102):=
 (callsIn_wide (n:=5)).1 (AnyZ.keys_in Tryz.keysB Fence.wide 5 trivial rfl (some m) W)
theorem KA {w:World} {b n:Nat} {D:DataW Value} {R:Value->Option (DataW Value×List MemPlace)} (hown:w.ownsMap Tryz.prog 9 R b n D) {x:List UInt8} (hx:x∈strKeys D):fC ⟨x.toArray⟩/\has D (sL ⟨x.toArray⟩)=true:=by
 refine ⟨by have:=strKeys_le hown Tryz.underlying9 x hx;simpa [fC,ByteArray.size]using this,?_⟩;obtain ⟨es,rfl,hk⟩:=hown.keysOf;obtain ⟨p,hp,rfl⟩:=List.mem_map.1 hx;obtain ⟨key,hkey⟩:=hk p hp;obtain ⟨y, -,hy, -⟩:=Maps.keyOf_str Tryz.underlying9 hkey;rw[has_eq,List.any_eq_true];refine ⟨p,hp,?_⟩;rw[hy];exact WideAt.sameKey_self (lT ⟨y.toArray⟩)
theorem ML {ξ:Nat} {w:World} {b room m n:Nat} {ch:ByteArray->Option Nat} {R:ByteArray->List RV} (h:bC ξ w b room m n ch R) (hn:n<=1000000):
 Calls Tryz.prog 57 #[.func (.func 81) #[] #[.pointer (some ⟨w.heap.size,0,none⟩)]] (w.alloc (.cells #[.map (some m)] 102)) fun e w'=>
  ∃v zs,e=.returned v/\zs.length<=n/\(∀s∈zs,fC s/\∃c,ch s=some c)/\w'.ownsRow w.heap.size 9 1 v zs.length (dK zs)/\Nx w w':=by
 obtain ⟨D,hown, -,hD⟩:=h.map;have hbl:=hown.lt;have hsz:Maps.size D<=n:=hown.size_le
 have hseq:SeqGives Fence.wide 2 Tryz.prog 81 #[.pointer (some ⟨w.heap.size,0,none⟩)] encStr (fun ss=>ss.Perm (strKeys D)) (Maps.size D) (w.alloc (.cells #[.map (some m)] 102)):=
  AnyZ.keys_gives (ρ:=Tryz.keysB_ren) { Tryz.keysB with} Fence.wide _ trivial rfl (by omega) w.heap.size m n D _ (by simp) (by simp) (by
   obtain ⟨es,clock,hb,Ft,hs,hD⟩:=hown;exact ⟨es,clock,(Below.heap_alloc _ _ m hbl).trans hb,Ft,hs,hD⟩)
 refine ((callsIn_wide (n:=5)).1 (AnyZ.sorted_in Tryz.sortedB Fence.wide 5 trivial trivial trivial trivial rfl (by omega) (Tryz.sortsB _) (enters_of Tryz.func80 (by kernel_rfl) rfl) 81 #[.pointer (some ⟨w.heap.size,0,none⟩)] trivial (enters_of Tryz.func81 (by kernel_rfl) rfl) _ _ (by simp only[maxLen];omega) (by omega) _ hseq)).mono ?_;rintro e w' ⟨v,ss,rfl,hp,hrow, -,hb⟩;have hl:ss.length=(strKeys D).length:=hp.length_eq
 have hl2:(strKeys D).length=Maps.size D:=by
  obtain ⟨es,rfl, -⟩:=hown.keysOf;simp[strKeys,Maps.size]
 refine ⟨v,(ss.mergeSort (fun x y=>decide (x<=y))).map fun x=>⟨x.toArray⟩,rfl,by rw[List.length_map,List.length_mergeSort];omega,fun s hs=>?_,?_,?_⟩
 ·obtain ⟨x,hx,rfl⟩:=List.mem_map.1 hs
  have h1:=hp.subset ((List.mergeSort_perm ss _).subset hx);obtain ⟨h2,h3⟩:=KA hown h1;refine ⟨h2,?_⟩;rw[(hD _ h2).1]at h3;dsimp only at h3
  cases hc:ch ⟨x.toArray⟩ with
  |none=>rw[hc]at h3;cases h3
  |some c=>exact ⟨c,rfl⟩
 ·rw[←sU,List.length_map,List.length_mergeSort]
  exact su hrow (by simp)
 ·exact ((Ch.refl _ w).alloc _).tr ((Ch.of_below hb).nx fun i hi hs=>by omega)
theorem mM {w:World} {b b':Nat} {e e':TypeId} {s s' n n':Nat} {v v':Value} {xs xs':List Value} (h:w.ownsRow b e s v n xs) (h':w.ownsRow b' e' s' v' n' xs') (hne:e≠e') {k:Nat} (hk:v.ownBlock=some k):v'.ownBlock≠some k:=by
 rcases h.2 with ⟨rfl,_⟩|⟨g,cap,cur,rfl,_,hh,_⟩
 ·simp[Value.ownBlock]at hk
 ·have e1:g=k:=by simpa [Value.ownBlock]using hk
  subst e1;exact z07 h' (g:=g) hh (fun e=>hne e.symm)
theorem Rk {w:World} {b:Nat} {e:TypeId} {s n:Nat} {v:Value} {xs:List Value} (h:w.ownsRow b e s v n xs) {k:Nat} (hk:v.ownBlock=some k):VD w k:=by
 rcases h.2 with ⟨rfl,_⟩|⟨g,cap,cur,rfl,_,hh,_⟩
 ·simp[Value.ownBlock]at hk
 ·have e1:g=k:=by simpa [Value.ownBlock]using hk
  subst e1;exact ⟨_,_,_,hh⟩
theorem bC.chg {ξ:Nat} {w w':World} {b room m n:Nat} {ch:ByteArray->Option Nat} {R:ByteArray->List RV} (h:bC ξ w b room m n ch R) {s:ByteArray} {c:Nat} {l:List RV} (hc:ch s=some c) (C:Ch (· =c) w w') {p q:Nat} (h2:w'.heap[c]?=some (.chan room (l.map aK).toArray false p q false)) (hf:l.length<=room):
 bC ξ w' b room m n ch (fun t=>if t=s then l else R t) where
 blk:=h.blk.ch C (fun e=>(h.jC hc).2 e.symm)
 map:=h.map.ch C (fun e=>(h.jC hc).1 e.symm)
 box:=fun t k hk=>by
  by_cases e:t=s
  ·subst e
   rw[hc]at hk;injection hk with hk;subst hk;exact ⟨p,q,by rw[if_pos rfl];exact h2⟩
  ·obtain ⟨p',q',e'⟩:=h.box t k hk
   exact ⟨p',q',by rw[if_neg e];exact (C.block k (h.iQ hk) (fun e2=>e (h.inj t s c (by rw[hk,e2]) hc))).trans e'⟩
 non:=fun t ht=>by
  have:t≠s:=by rintro rfl;rw[hc]at ht;cases ht
  try dsimp only
  rw[if_neg this];exact h.non t ht
 inj:=h.inj
 few:=fun t=>by
  try dsimp only
  split
  ·exact hf
  ·exact h.few t
 Kt:=h.Kt
 ND:=h.ND
theorem Hz {w:World} {m n:Nat} {f:ByteArray->Option Value} (h:dY w m n f) {t E:TypeId} (ht:Tryz.prog.underlying t=some (.map 9 E)):
 ∃w',∀ty,(Builtin.clear_ #[t] ty #[.map (some m)]).run Tryz.prog w=.ok (.tuple #[]) w'/\Ch (· =m) w w':=by
 obtain ⟨D,⟨es,clock,hb,_⟩,_⟩:=h;refine ⟨{ w with heap:=w.heap.setIfInBounds m (.map #[] clock)},fun ty=>⟨?_,⟨rfl,rfl,rfl,by simp,fun k hk hn=>?_⟩⟩⟩
 ·simp[Builtin.clear_,run_underlying ht,getObj,setObj,Sem.run,hb]
 ·simp only[Array.getElem?_setIfInBounds_ne (fun e=>hn e.symm)]
end Go.Proofs.YtdbfejfhpkakhaaGreat
namespace Go.Proofs.YtdbfejfhpkakhaaGreat
open Go.RowKit
theorem Rd.RI (w:World) (s:ByteArray) (x:RV):Rd (w.alloc (.cells #[.string s,.int .i64 x.row.kind,.int .i64 x.row.time,.slice x.A x.row.ak.length x.c,.string x.row.text,.int .i64 x.row.value,.bool x.row.null,.int .i64 x.row.maker,.int .i64 x.row.seq,.int .i64 x.row.place] 113)) (fun k=>k=w.heap.size) 10 (some ⟨w.heap.size,0,none⟩) 1 (DW [(s,x)]):=
 ⟨rfl,fun _=>⟨_,rfl,rfl,fun j u hu=>by
   have:=(aG.new w 113 #[.string s,.int .i64 x.row.kind,.int .i64 x.row.time,.slice x.A x.row.ak.length x.c,.string x.row.text,.int .i64 x.row.value,.bool x.row.null,.int .i64 x.row.maker,.int .i64 x.row.seq,.int .i64 x.row.place]);exact World.news_of_block this j u (by simpa [DW,Zt,RV.cs]using hu)⟩⟩
structure IK (ξ:Nat) (w wr:World) (b room m n:Nat) (ch:ByteArray->Option Nat) (v:Value) (L:Nat) (vk:Value) (zs:List ByteArray):Prop where
 own:∃xs,wr.ownsRow w.heap.size 113 10 v L xs
 keys:wr.ownsRow w.heap.size 9 1 vk zs.length (dK zs)
 CB:∃R,bC ξ wr b room m n ch R
 nc:Ch (NC ξ w) w wr
section
variable {w wr wr' : World} {b room m n L : Nat} {ch : ByteArray → Option Nat} {v vk : Value} {zs : List ByteArray}
theorem IK.nc_ {ξ:Nat} (h:IK ξ w wr b room m n ch v L vk zs) (c:Ch (NC ξ wr) wr wr') (hb:∃R,bC ξ wr' b room m n ch R):IK ξ w wr' b room m n ch v L vk zs:=by
 obtain ⟨xs,ho⟩:=h.own;exact ⟨⟨xs,z06 ho c fun k hk hs=>hs.2 (Rk ho hk)⟩,z06 h.keys c fun k hk hs=>hs.2 (Rk h.keys hk),hb,h.nc.jQ c⟩
theorem IK.nx {ξ:Nat} (h:IK ξ w wr b room m n ch v L vk zs) (c:Nx wr wr'):IK ξ w wr' b room m n ch v L vk zs:=by
 obtain ⟨R,hb⟩:=h.CB;exact h.nc_ (Nx.nc (ξ:=ξ) c) ⟨R,hb.nx c⟩
theorem IK.app {ξ:Nat} (h:IK ξ w wr b room m n ch v L vk zs) {v':Value} {L':Nat} {xs':List Value} (o:wr'.ownsRow w.heap.size 113 10 v' L' xs') (g:wr.grownBy wr' v.ownBlock) (hbw:b<w.heap.size):IK ξ w wr' b room m n ch v' L' vk zs:=by
 obtain ⟨xs,ho⟩:=h.own;obtain ⟨R,hb⟩:=h.CB;have C:Ch (fun k=>v.ownBlock=some k) wr wr':=(Ch.refl _ wr).grown g fun k hk _=>hk;refine ⟨⟨xs',o⟩,z06 h.keys C fun k hk hs=>mM ho h.keys (by decide) hs hk,⟨R,hb.Ib C (fun hs=>by have:=(World.ownsRow.lt ho b hs).1;omega) fun k _ hs=>Rk ho hs⟩,?_⟩;exact h.nc.trans C fun i hi hs=>by have:=(World.ownsRow.lt ho i hs).1;omega
end
theorem r_ {ξ:Nat} {w:World} {b room m n:Nat} {ch:ByteArray->Option Nat} {R:ByteArray->List RV} (h:bC ξ w b room m n ch R) (hn:n<=1000000) (hr2:room<=2048):
 Calls Tryz.prog 36 #[.pointer (some ⟨b,0,none⟩)] w fun e w'=>(∃v,e=.returned v)/\Ch (NC ξ w) w w':=by
 obtain ⟨i0,hi0,hz0,hz1,hz2⟩:=info_parts Tryz.KO;have jM:=ah h;have hbl:=h.blk.lt;have d1:w.cell? ⟨b,1,none⟩=some (.map (some m)):=h.blk.cell 1;have HK1:=ah (MB m w);have HK2:=ah (ML h hn);clear h;go_enter Tryz.func36,Tryz.ntmps36;go_wp2_with fail;refine HK1.out.mono ?_;rintro e w1 ⟨rfl,rfl⟩;go_wp2_with fail;refine HK2.out.mono ?_;rintro e w2 ⟨vk,zs,rfl,hzn,hzs,hko,n2⟩;obtain ⟨Ak,ck,rfl,hck1,hck2⟩:=h_ hko;have Ve:=ah hzs;have HD0:=ah (show IK ξ w w2 b room m n ch (.slice none 0 0) 0 (.slice Ak zs.length ck) zs from ⟨⟨[],World.ownsRow_nil _ _ _ _⟩,hko,⟨R,jM.out.nx n2⟩,Nx.nc (ξ:=ξ) n2⟩);obtain ⟨K,hK⟩:∃K,zs.length=K:=⟨_,rfl⟩;have HKL:=ah hK;rw[hK]at hzn HD0 ⊢;clear hzs hko n2 hck1 hck2 HK1 HK2 hK d1;go_wp2_with fail;go_loopw [3,18] (fun v i wr=>∃(k L:Nat),k<=K/\L<=2048 * k/\i=.int .i64 (k:Int)/\Hid (IK ξ w wr b room m n ch v L (.slice Ak K ck) zs)) (fun _ i _=>K-(intOf i).toNat)
 case atStart=>exact ⟨0,0,Nat.zero_le _,Nat.zero_le _,rfl,HD0⟩
 case round=>
  obtain ⟨w4,rfl⟩:∃w4:World,w4=wr:=⟨_,rfl⟩;obtain ⟨k,L,hkK,hL,rfl,HD⟩:=hrel;clear HD0;by_cases hlt:k<K
  ·obtain ⟨R4,hB4⟩:=HD.out.CB
   have hkz:k<zs.length:=by rw[HKL.out];exact hlt
   have hkeys:=HD.out.keys;rw[HKL.out]at hkeys;obtain ⟨ad,u,rfl, -,hu,p0⟩:=(Rd.bW hkeys).at_ hlt;rw[Jp hkz]at hu;injection hu with hu;subst hu;have hmem:zs.getD k ByteArray.empty∈zs:=by rw[List.getD_eq_getElem?_getD,List.getElem?_eq_getElem hkz];exact List.getElem_mem hkz
   obtain ⟨hs,c,hc⟩:=Ve.out _ hmem;clear hmem;generalize zs.getD k ByteArray.empty=s at *;have hlk:=(hB4.look hs).2;rw[hc]at hlk;have d1:w4.cell? ⟨b,1,none⟩=some (.map (some m)):=hB4.blk.cell 1;have hb4:=hB4.blk.lt;have N5:=ah ((Ch.refl (fun _=>False) w4).alloc (.cells #[.chan (some c)] 116));obtain ⟨p,q,hch⟩:=(hB4.nx N5.out).box s c hc;have hfew:=hB4.few s;have HDR:=ah (Ik w4.heap.size c room (R4 s) p q (w4.alloc (.cells #[.chan (some c)] 116)) ((aG.new w4 116 #[.chan (some c)]).cell 0) hch (by omega));have HB4:=ah hB4;have HC:=ah hc;clear hB4 hkeys hch hc;go_wp2_with fail;refine HDR.out.mono ?_;rintro e w6 ⟨vr,rfl,hor,c6,s6,r6,hc6⟩;have HB6:=ah ((HB4.out.nx N5.out).chg HC.out c6 (l:=[]) (by exact hc6) (Nat.zero_le _));have HD6:=ah ((HD.out.nx N5.out).nc_ (c6.mono fun i _ e=>by have e2:i=c:=e;subst e2;exact (HB4.out.nx N5.out).kW HC.out) ⟨_,HB6.out⟩);have hs5:w.heap.size<=(w4.alloc (.cells #[.chan (some c)] 116)).heap.size:=by have:=HD.out.nc.size;simp;omega
   have Vl:=ah (su hor hs5);obtain ⟨Ar,cr,rfl, -, -⟩:=h_ hor;obtain ⟨Z,hZ⟩:∃Z,(R4 s).length=Z:=⟨_,rfl⟩;have EH:=ah hZ;rw[hZ]at Vl hfew ⊢;generalize R4 s=rows at *;clear hor c6 hc6 HDR HB4 HB6 HD d1 hlk p0 hZ hs5 N5;go_wp2_with fail;go_loopw [3,30] (fun v2 i2 wr2=>∃(j:Nat),j<=Z/\i2=.int .i64 (j:Int)/\Hid (IK ξ w wr2 b room m n ch v2 (L+j) (.slice (some ad) K ck) zs)/\Hid (wr2.ownsRow w.heap.size 79 9 (.slice Ar Z cr) Z (bM rows))) (fun _ i2 _=>Z-(intOf i2).toNat)
   case atStart=>exact ⟨0,Nat.zero_le _,rfl,HD6,Vl⟩
   case round=>
    obtain ⟨w8,rfl⟩:∃w8:World,w8=wr:=⟨_,rfl⟩;clear HD6 Vl;obtain ⟨j,hjZ,rfl,HD,Vl⟩:=hrel;by_cases PS:j<Z
    ·obtain ⟨xs,ho⟩:=HD.out.own
     obtain ⟨A3,c3,hv3, -, -⟩:=h_ ho;subst hv3;obtain ⟨ar,rfl, -,p0,p1,p2,p3,p4,p5,p6,p7,p8⟩:=qg (Rd.bW Vl.out) (k:=j) (by rw[EH.out];exact PS);have HO:=ah ho;have hs8:=HD.out.nc.size;clear ho;generalize rows[j]'(by rw[EH.out];exact PS)=x at *;obtain ⟨⟨kind,time,ak,text,value,null,maker,seq,place⟩,A1,c1⟩:=x;simp only at p0 p1 p2 p3 p4 p5 p6 p7 p8;have HL10:=ah (Rd.RI (w8.alloc (.cells #[.int .i64 kind,.int .i64 time,.slice A1 ak.length c1,.string text,.int .i64 value,.bool null,.int .i64 maker,.int .i64 seq,.int .i64 place] 79)) s ⟨⟨kind,time,ak,text,value,null,maker,seq,place⟩,A1,c1⟩);have N9:=ah (((Ch.refl (fun _=>False) w8).alloc (.cells #[.int .i64 kind,.int .i64 time,.slice A1 ak.length c1,.string text,.int .i64 value,.bool null,.int .i64 maker,.int .i64 seq,.int .i64 place] 79)).alloc (.cells #[.string s,.int .i64 kind,.int .i64 time,.slice A1 ak.length c1,.string text,.int .i64 value,.bool null,.int .i64 maker,.int .i64 seq,.int .i64 place] 113));simp only[World.size_alloc]at HL10;go_wp2_with (at_builtin;refine z04 _ rfl (.tmp 34) (.tmp 38) _ rfl w.heap.size 113 i0 _ 10 112 Tryz.underlying90 hi0 hz0 hz1 hz2 rfl (by omega) (.slice A3 (L+j) c3) (L+j) xs rfl (z06 HO.out N9.out (fun _ _ hf=>hf)) _ (some ⟨w8.heap.size+1,0,none⟩) 1 1 _ rfl HL10.out (DV _) (by simp only[maxLen];omega) (by omega) (by simp;omega) ?_;intro v7 w7 dn gr7 at7;have D7:=ah ((HD.out.nx N9.out).app dn gr7 hbl);have R7:=ah (z06 (z06 Vl.out N9.out (fun _ _ hf=>hf)) ((Ch.refl _ _).grown gr7 fun k hk _=>hk) fun k hk hs=>mM (z06 HO.out N9.out (fun _ _ hf=>hf)) (z06 Vl.out N9.out (fun _ _ hf=>hf)) (by decide) hs hk);clear dn gr7 at7)
     go_roundw
     case rel=>exact ⟨j+1,by omega,by go_num,D7,R7⟩
     case measure=>simp[intOf];omega
    ·have HDe:Hid (IK ξ w w8 b room m n ch u3 (L+Z) (.slice (some ad) K ck) zs):=ah (by have:=HD.out;rw[show j=Z by omega]at this;exact this)
     go_wp2_with fail;go_roundw
     case rel=>exact ⟨k+1,L+Z,by omega,by omega,by go_num,HDe⟩
     case measure=>simp[intOf];omega
  ·obtain ⟨R4,hB4⟩:=HD.out.CB
   have d1:w4.cell? ⟨b,1,none⟩=some (.map (some m)):=hB4.blk.cell 1;have hb4:=hB4.blk.lt;obtain ⟨w5,hcl⟩:∃w5:World,∀ty,(Builtin.clear_ #[102] ty #[.map (some m)]).run Tryz.prog w4=.ok (.tuple #[]) w5/\Ch (· =m) w4 w5:=Hz hB4.map Tryz.underlying102;have C5:=ah (HD.out.nc.jQ ((hcl 0).2.mono fun i _ e=>by have e2:i=m:=e;subst e2;exact hB4.uj));have XP:=fun ty=>(hcl ty).1;clear hB4 hcl;go_wp2_with fail;go_ret;exact ⟨⟨_,rfl⟩,C5.out⟩
end Go.Proofs.YtdbfejfhpkakhaaGreat
