/- The program's disk: Files. Condition: the disk is a call's own. -/
import Derived.Test.YtgeofijddhflaaaGreatDoorQDiskCut
import Derived.Test.YtgeofijddhflaaaGreatDoorQDiskNames
import Derived.Test.YtgeofijddhflaaaGreatDoorQRDiskSame
set_option maxHeartbeats 8000000
set_option maxRecDepth 100000
namespace Go.Proofs.YtgeofijddhflaaaGreatDoor
section
open Go.RowKit Go.Maps Go.Sort Oct
section
variable{w w1 w2 wr w' :World}{base g m:Nat}{p p' :PWD}{room:Int}{es es' :List (Nm×FE)}
theorem bU5{α:Type}{l:List (Nm×α)}(hr:aL2 l){k:Nat}(hk:k<l.length):aB6 l[k].1 l=some l[k].2:=by
 induction l generalizing k with
 |nil=>simp at hk
 |cons y r ih=>
  have h1:=List.pairwise_cons.1 hr;cases k with
  |zero=>simp[aB6]
  |succ k=>
   have a8:k<r.length:=by simpa using hk
   have a9:¬(y.1==r[k].1)=true:=fun e=>by
    have e' :y.1=r[k].1:=by simpa using e
    have:=h1.1 _ (lX a8);rw[e',show bytesBefore r[k].1 r[k].1=false from WideAt.bytes_irrefl _] at this;cases this
   have:=ih h1.2 a8;unfold aB6 at this⊢;have hf:(y.1==r[k].1)=false:=by simpa using a9
   simp only[List.getElem_cons_succ,List.find?_cons,hf];exact this
theorem aB4.boot1(h:aB4 wr base g m p room es){n:Nm}{fe:FE}(hn:aB6 n es=some fe)(s:Nat)(hs:s<=fe.f.b.length)(nt:Nat):
  aB4 ((wr.drewN nt).setCell ⟨fe.blk,1,none⟩ (.int .i64 s)) base g m p room (aB7 n ⟨fe.blk,fe.v,⟨fe.f.b,s⟩⟩ es)∧Fr (aB1 g m es) wr ((wr.drewN nt).setCell ⟨fe.blk,1,none⟩ (.int .i64 s))∧(∀k,aB1 g m (aB7 n ⟨fe.blk,fe.v,⟨fe.f.b,s⟩⟩ es) k->aB1 g m es k∨wr.heap.size<=k):=by
 have a8:=aC8 hn;have hK:=h.file _ a8;have hG:=h.got _ a8;simp only at hK hG;have d8:=aA0 (wr.drewN nt) fe.blk 1 (.int .i64 (s:Int));have a9:∀k,k≠fe.blk->((wr.drewN nt).setCell ⟨fe.blk,1,none⟩ (.int .i64 (s:Int))).heap[k]? =wr.heap[k]? :=fun k hk=>Below.heap_setCell (wr.drewN nt) ⟨fe.blk,1,none⟩ _ k (by simpa using hk)
 have b8:Got ((wr.drewN nt).setCell ⟨fe.blk,1,none⟩ (.int .i64 (s:Int))) base fe.v fe.f.b:=hG.kept (fun i hi=>a9 i (fun e=>aF0 hG hK (by decide) (by rw[hi,e]))) (by simp);refine⟨h.file_set hn fe.v ⟨fe.f.b,s⟩ (by simp) (Blk.set_ (hK.drewN nt) 1 _) b8 hs (fun i hi=>.inl hi) (fun i hi h1 _=>a9 i h1),?_,fun k hk=>?_⟩
 ·exact((Fr.refl (aB1 g m es) wr).drewN_ nt).trans (Fr.of_grown (mine:=fun k=>k=fe.blk) d8 (fun k e=>by injection e with e;exact e.symm)) (fun j hj=>.inl (by rw[hj];exact aR7 hn))
 exact bH2 hk (fun e=>.inl (by have e' :fe.blk=k:=e;rw[<-e'];exact aR7 hn)) (fun e=>.inl (bU3 hn e))
theorem aB4.boot2(h:aB4 wr base g m p room es)(hb:Below wr.heap.size wr w2){n:Nm}{fe:FE}(hn:aB6 n es=some fe){v:Value}{l:List UInt8}(hs:fe.f.safe<=l.length)(hg:Got w2 wr.heap.size v l):
  aB4 (w2.setCell ⟨fe.blk,0,none⟩ v) base g m p room (aB7 n ⟨fe.blk,v,⟨l,fe.f.safe⟩⟩ es)∧Fr (aB1 g m es) wr (w2.setCell ⟨fe.blk,0,none⟩ v)∧(∀k,aB1 g m (aB7 n ⟨fe.blk,v,⟨l,fe.f.safe⟩⟩ es) k->aB1 g m es k∨wr.heap.size<=k):=by
 have a8:=aC8 hn;have h2:=h.below hb;have hK:=h2.file _ a8;simp only at hK;have d8:base<=wr.heap.size:=by have:=h.low.1;have:=h.blk.lt;omega
 have d9:=aA0 w2 fe.blk 0 v;have a9:∀k,k≠fe.blk->(w2.setCell ⟨fe.blk,0,none⟩ v).heap[k]? =w2.heap[k]? :=fun k hk=>Below.heap_setCell w2 ⟨fe.blk,0,none⟩ _ k (by simpa using hk)
 have f6:fe.blk<wr.heap.size:=(h.file _ a8).lt;have b8:Got (w2.setCell ⟨fe.blk,0,none⟩ v) base v l:=(hg.mono d8).kept (fun i hi=>a9 i (fun e=>by have:=hg.row.base i hi;omega)) (by simp);refine⟨h.file_set hn v ⟨l,fe.f.safe⟩ (by simp;exact hb.size) (Blk.set_ hK 0 _) b8 hs (fun i hi=>.inr (hg.row.base i hi)) (fun i hi h1 _=>(a9 i h1).trans (hb.block i hi)),?_,fun k hk=>?_⟩
 ·exact(Fr.of_below (aB1 g m es) hb).trans (Fr.of_grown (mine:=fun k=>k=fe.blk) d9 (fun k e=>by injection e with e;exact e.symm)) (fun j hj=>.inl (by rw[hj];exact aR7 hn))
 exact bH2 hk (fun e=>.inl (by have e' :fe.blk=k:=e;rw[<-e'];exact aR7 hn)) (fun e=>.inr (hg.row.base k e))
theorem cR7(h:aB4 w base g m p room es)(A:Option Addr)(z:List Int)(cz:Nat)(hz:Rd w base A (z.map (Value.int .i64)))(m6:∀n∈z,-9223372036854775808<=n∧n<=9223372036854775807)(D7:z.length<=140737488351232)(hl:es.length<=549755813888)(B4:∀q∈es,q.2.f.b.length<=549755813888)(B9:∀q∈es,q.1.length<=140737488351232):
  Calls Tryz.prog 22 #[.pointer (some ⟨g,0,none⟩),.slice A z.length cz] w fun e w' =>(∃v,e=.returned v)∧aC0 w base g m es ((aD6 p room es).boot z) w' :=by
 have B7:=qZ (bB7 h (by omega));have H:=qZ h;have HZ:=qZ hz;have C5:=qZ m6;have C7:=qZ B4;have C0:=qZ B9;have D9:base<=w.heap.size:=by have:=h.low.1;have:=h.blk.lt;omega
 clear h hz m6 B4 B9;go_enter Tryz.func22,Tryz.ntmps22
 go_wp2_with fail
 refine B7.out.mono ?_;rintro e w1 ⟨vn,rfl,t8,o7⟩;obtain⟨An,cn,rfl,_,_,x8⟩:=t8.shape;have n4:=fun k hk=>(t8.lt k hk)
 rw[lU];have HN:=qZ x8;have C3:=qZ n4;have p7:=qZ o7;have D3:=o7.size;clear t8 x8 n4 o7 B7;go_wp2_with fail
 go_loopw [10] (fun i wr=>∃(k:Nat) (a8:List (Nm×FE)),k<=es.length∧i=.int .i64 k∧Hid (aB4 wr base g m p room a8)∧Hid (sec FE.f a8=aY3 z k (sec FE.f es))∧Hid (Fr (aB1 g m es) w1 wr)∧Hid (∀j,aB1 g m a8 j->aB1 g m es j∨w1.heap.size<=j)) (fun i _=>es.length-(intOf i).toNat)
 case atStart=>exact⟨0,es,by omega,rfl,qZ (H.out.below p7.out),qZ (cO0 _ _).symm,qZ (Fr.refl _ _),qZ (fun j hj=>.inl hj)⟩
 obtain⟨k,a8,hk,rfl,HD,HS,HF,HK⟩:=hrel;have m2:a8.length=es.length:=by have:=congrArg List.length HS.out;simpa[bE6,sec] using this
 obtain⟨⟨d0,d1,d2,d3,d4,d5⟩,f0,f1,f2,f3⟩:=aL0 HD.out.blk;by_cases hlt:k<es.length
 rotate_left
 ·have D5:k=es.length:=by omega
  have x5:aY3 z k (sec FE.f es)=((aD6 p room es).boot z).fs:=by
   rw[D5];show _=aY3 z (sec FE.f es).length (sec FE.f es)
   rw[aH5]
  obtain⟨w4,o5⟩:∃w4,w4=(((wr.setCell ⟨g,0,none⟩ (.bool false)).setCell ⟨g,1,none⟩ (.bool false)).setCell ⟨g,2,none⟩ (.int .i64 0)).setCell ⟨g,3,none⟩ (.int .i64 0):=⟨_,rfl⟩
  have p9:wr.grownBy w4 (some g):=by rw[o5];exact aA4 (aA4 (aA4 (aA0 wr g 0 _) (aA0 _ g 1 _) (.inl rfl)) (aA0 _ g 2 _) (.inl rfl)) (aA0 _ g 3 _) (.inl rfl)
  have C4:=qZ (HD.out.power (p' :=⟨false,false,0,0⟩) p9 (by rw[o5];exact Blk.set_ (Blk.set_ (Blk.set_ (Blk.set_ HD.out.blk 0 _) 1 _) 2 _) 3 _) ⟨⟨by decide,by decide⟩,⟨by decide,by decide⟩,HD.out.num.2.2⟩);have n8:=qZ (HF.out.trans (Fr.of_grown (mine:=aB1 g m a8) p9 (fun k e=>by injection e with e;exact .inl e.symm)) HK.out);have D6:=qZ (HS.out.trans x5);have C6:=qZ o5;clear x5 p9 m2 o5;go_wp2_with fail
  rw[<-C6.out];go_end0
  refine⟨⟨_,rfl⟩,_,C4.out,D6.out,(Fr.of_below (aB1 g m es) p7.out).trans n8.out (fun j hj=>.inl hj),fun j hj=>?_⟩;rcases HK.out j hj with h|h
  ·exact .inl h
  exact .inr (Nat.le_trans D3 h)
 have o6:k<a8.length:=by omega
 have m7:(a8[k].1,a8[k].2.f)=((sec FE.f es)[k]'(by rw[aH5];exact hlt)):=by
  have h1:=cX2 z (fs:=sec FE.f es) (k:=k) (by rw[aH5];exact hlt) (by rw[bE6,aH5];exact hlt);rw[<-h1];have h2:(sec FE.f a8)[k]'(by rw[aH5];exact o6)=(a8[k].1,a8[k].2.f):=by simp[sec]
  rw[<-h2];exact List.getElem_of_eq HS.out _
 have q6:((sec FE.f es)[k]'(by rw[aH5];exact hlt))=(es[k].1,es[k].2.f):=by simp[sec]
 have o8:a8[k].1=es[k].1:=by rw[q6] at m7;injection m7
 have B6:a8[k].2.f=es[k].2.f:=by rw[q6] at m7;injection m7
 have y8:a8[k].2.f.b.length<=549755813888:=by rw[B6];exact C7.out _ (lX hlt)
 have C9:a8[k].1.length<=140737488351232:=by rw[o8];exact C0.out _ (lX hlt)
 have l5:=bU5 HD.out.rising o6;have hm:a8[k]∈a8:=lX o6;have b8:=HD.out.file _ hm;obtain⟨Ax,cx,hv,B5,D8,z9⟩:=(HD.out.got _ hm).shape;have p4:=HD.out.safe _ hm;obtain⟨t6,x4,n7,B8⟩:=aQ1 (f:=fun q:Nm×FE=>Value.string (str q.1)) HN.out hlt;have n6:wr.cell? (t6.add k)=some (.string (str a8[k].1)):=by
  rw[o8];refine(World.cell?_of_block (w:=w1) ?_).trans B8;rw[aC7];refine HF.out.block t6.block n7 (fun hm=>?_);have h1:=(H.out.lt _ hm).2;have h2:=(C3.out t6.block (by rw[x4];rfl)).1;omega
 have hl:=HD.out.map.get Tryz.underlying9 Tryz.underlying59 (aT0 wr) (str a8[k].1) (by rw[aK1];unfold maxLen;omega);rw[bU1,aH6,l5] at hl;have x7:(Instr.lookup 59 (.map (some m)) (.string (str a8[k].1)) false).run Tryz.prog wr=.ok (.pointer (some ⟨a8[k].2.blk,0,none⟩)) wr:=hl;have hB:=cF8 z k a8[k].2.f p4;have p8:Hid (∀ad,A=some ad->ad.block<base->wr.heap[ad.block]? =w.heap[ad.block]?):=qZ (fun ad e hlo=>(HF.out.block ad.block (by omega) (fun hm=>by have:=(H.out.lt _ hm).1;omega)).trans (p7.out.block ad.block (by omega)));have l7:=HD.out.rising;have d9:Hid (∀s v,s=(aR4 z k a8[k].2.f).safe->sec FE.f (aB7 a8[k].1 ⟨a8[k].2.blk,v,⟨a8[k].2.f.b.take s,s⟩⟩ a8)=aY3 z (k+1) (sec FE.f es)):=qZ (fun s v hs=>by
  rw[aU6 l7 o6,dJ2,HS.out,<-cP9 z (by rw[aH5];exact hlt),<-m7];show _=(aY3 z k (sec FE.f es)).set k (a8[k].1,aR4 z k a8[k].2.f)
  rw[hs]
  rfl)
 obtain⟨q,hq⟩:∃q,q=a8[k]:=⟨_,rfl⟩
 rw[<-hq] at l5 y8 C9 b8 hv B5 z9 p4 n6 x7 hB d9;have e0:wr.cell? ⟨q.2.blk,0,none⟩=some (.slice Ax q.2.f.b.length cx):=by rw[<-hv];exact b8.cell 0
 have e1:wr.cell? ⟨q.2.blk,1,none⟩=some (.int .i64 q.2.f.safe):=b8.cell 1;have u0:wr.frozen? ⟨q.2.blk,0,none⟩=false:=b8.frozen 0;have u1:wr.frozen? ⟨q.2.blk,1,none⟩=false:=b8.frozen 1;have s9:q.2.blk<wr.heap.size:=b8.lt;have HQ:=qZ l5;have HV:=qZ hv;have HB:=qZ hB;have D1:=qZ m2;have E5:(k:Int)<(es.length:Int):=by omega
 obtain⟨qn,blk,qv,qb,qs⟩:=q;simp only at e0 e1 u0 u1 s9 B5 p4 y8 n6 x7;subst x4;clear m7 q6 o8 B6 l5 hm b8 hv z9 B8 hl hB l7 hq m2 n7 d0 d1 d2 d3 d4 f0 f1 f2 f3;by_cases hkz:k<z.length
 rotate_left
 ·have g8:(aR4 z k ⟨qb,qs⟩).safe=qs:=by
   unfold aR4;show qs+_=_
   rw[if_neg hkz]
   rfl
  have t4:¬(k:Int)<(z.length:Int):=by omega
  obtain⟨s,hs⟩:∃s,s=qs:=⟨_,rfl⟩
  have m4:=qZ (g8.trans hs.symm);have p5:s<=qb.length:=by omega
  have j9:=HQ;simp only at j9;have D4:=qZ hs;have j9:Hid (aB6 qn a8=some ⟨blk,qv,⟨qb,s⟩⟩):=qZ (by rw[D4.out];exact HQ.out);rw[<-hs] at e1;clear g8 hs;go_wp2_with fail
  obtain⟨W1,l6⟩:∃W1,W1=wr:=⟨_,rfl⟩
  have l4:Hid (aB4 W1 base g m p room a8):=by rw[l6];exact HD
  have m5:Hid (Fr (aB1 g m a8) wr W1):=by rw[l6];exact qZ (Fr.refl _ _)
  have m3:Hid (∀k,aB1 g m a8 k->aB1 g m a8 k∨wr.heap.size<=k):=qZ (fun k hk=>.inl hk);have i6:=fun v=>qZ (rfl:aB7 qn (⟨blk,v,⟨qb.take s,s⟩⟩:FE) a8=aB7 qn ⟨blk,v,⟨qb.take s,s⟩⟩ a8)
  rw[<-l6];clear l6 e0 e1 u0 u1;have f9:(qb.take s).length=s:=by rw[lV];omega
  have a9:=aC8 j9.out;have b8:=l4.out.file _ a9;have f7:blk<W1.heap.size:=b8.lt;obtain⟨A8,c8,h8,_,_,r8⟩:=(l4.out.got _ a9).shape;simp only at h8 r8 b8;have h9:qv=.slice Ax qb.length cx:=HV.out;rw[h9] at h8;have e0:W1.cell? ⟨blk,0,none⟩=some (.slice Ax qb.length cx):=by rw[<-h9];exact b8.cell 0
  have e1:W1.cell? ⟨blk,1,none⟩=some (.int .i64 (s:Int)):=b8.cell 1;injection h8 with h8 h8b h8c
  clear h8b h8c;have g9:Rd W1 W1.heap.size Ax (cells (qb.take s)):=by rw[h8];unfold cells;rw[List.map_take];exact Rd.take r8 _
  have t7:s<=cx:=by omega
  have hcut:=fun W:World=>aQ2 (P:=Tryz.prog) Tryz.underlying34 aC6 Ax qb.length cx 0 s (by omega) (by omega) 0 (s:Int) rfl rfl W
  have m9:=qZ (aQ7 Ax (qb.take s) s cx f9.symm W1.drew (show Rd W1.drew W1.drew.heap.size Ax _ from g9) (by omega));have j8:=qZ f9;have p6:=qZ b8;clear h8 r8 h9 g9 a9 b8 f9;refine aD4 13 (by kernel_rfl) (S:=fun W=>W.cell? ⟨blk,0,none⟩=some (.slice Ax qb.length cx)∧W.cell? ⟨blk,1,none⟩=some (.int .i64 (s:Int))∧True∧True) ⟨e0,e1,trivial,trivial⟩ (fun hHeld=>?_);refine zU 0 (k:=?_);refine zU 1 (k:=?_);refine zU 2 (k:=?_);refine zU 3 (k:=?_);refine zU 4 (k:=?_);refine zU 5 (k:=?_);refine zU 6 (k:=?_);refine zU 7 (k:=?_);refine zU 8 (k:=?_);refine zU 9 (k:=?_);simp only[zA,zB,zF,zG,zC,zD,zE];refine zW 10 (k:=fun K hK=>?_);simp only[zA,zB];go_simp;refine(m9.out).mono ?_;rintro e W2 ⟨v5,rfl,l9,j6⟩;obtain⟨A5,c5,m8,_⟩:=aC5 l9;rw[j8.out] at m8;subst m8;have b0:=j6.cell (p:=⟨blk,0,none⟩) f7;have b1:=j6.cell (p:=⟨blk,1,none⟩) f7;rw[show W1.drew.cell? ⟨blk,0,none⟩=_ from e0] at b0;rw[show W1.drew.cell? ⟨blk,1,none⟩=_ from e1] at b1;have i4:Below W1.heap.size W1 W2:=(lS _ W1).drew.trans j6;have n9:Blk W2 blk 83 _:=(j6.block blk f7).trans p6.out;have b2:W2.frozen? ⟨blk,0,none⟩=false:=n9.frozen 0;have f6:=aB4.boot2 l4.out i4 j9.out (v:=.slice A5 s c5) (l:=qb.take s) (by rw[j8.out];exact lR _) (Got.of_own l9);rw[(i6 _).out] at f6;have d8:=qZ f6;clear j6 i4 l9 n9 f6;refine hK.out _ _ ⟨b0,b1,trivial,trivial⟩ (fun hHeld=>?_);clear hK K;try simp only[zF,zG,zC,zD,zE]
  refine zW 11 (k:=fun K hK=>?_);simp only[zA,zB];go_simp;refine hK.out _ _ ⟨b0,b1,trivial,trivial⟩ (fun hHeld=>?_);clear hK K;try simp only[zF,zG,zC,zD,zE]
  refine zW 12 (k:=fun K hK=>?_);simp only[zA,zB];go_simp;refine hK.out _ _ ⟨b0,b1,trivial,trivial⟩ (fun hHeld=>?_);clear hK K;try simp only[zF,zG,zC,zD,zE]
  refine aG6 (t:=13) (by simp) (by kernel_rfl) (by kernel_rfl) (fun K hK=>?_);simp only[zA,zB];go_simp;refine hK.out _ _ ?_;clear hK K hHeld b0 b1 b2 hcut m9 e0 e1;have n8:=qZ ((HF.out.trans m5.out HK.out).trans d8.out.2.1 (fun j hj=>by
   rcases m3.out j hj with h|h
   ·exact HK.out j h
   exact .inr (Nat.le_trans HF.out.size h)))
  have q8:Hid (∀j,aB1 g m (aB7 qn ⟨blk,.slice A5 s c5,⟨qb.take s,s⟩⟩ a8) j->aB1 g m es j∨w1.heap.size<=j):=qZ (fun j hj=>by
   rcases d8.out.2.2 j hj with h|h
   ·rcases m3.out j h with h|h
    ·exact HK.out j h
    exact .inr (Nat.le_trans HF.out.size h)
   exact .inr (Nat.le_trans (Nat.le_trans HF.out.size m5.out.size) h))
  have m0:=qZ (d9.out s (.slice A5 s c5) m4.out.symm);have p0:=qZ d8.out.1;clear d8 d9 l4 j9 m5 m3 i6;go_wp2_with fail
  go_roundw
  case rel=>exact⟨k+1,_,by omega,by go_num,p0,m0,n8,q8⟩
  case measure=>simp[intOf];omega
 obtain⟨nn,t9⟩:∃nn:Nat,z.getD k 0 % ((qb.length:Int)-qs+1)=(nn:Int):=⟨(z.getD k 0 % ((qb.length:Int)-qs+1)).toNat,by have:=Int.emod_nonneg (z.getD k 0) (show((qb.length:Int)-qs+1)≠0 by omega);omega⟩
 have g8:(aR4 z k ⟨qb,qs⟩).safe=qs+nn:=by
  unfold aR4;show qs+_=_
  rw[if_pos hkz,t9]
  rfl
 have p5:qs+nn<=qb.length:=by have:=HB.out.1;simp only at this;rw[g8] at this;exact this
 obtain⟨o9,hA,n5,B1⟩:=aQ1 HZ.out hkz;have f8:wr.cell? (o9.add k)=some (.int .i64 (z.getD k 0)):=by
  rw[show z.getD k 0=z[k] by simp[List.getD,hkz]];exact(World.cell?_of_block (w:=w) (by rw[aC7];exact p8.out o9 hA n5)).trans B1
 have m6:=C5.out _ (lX hkz);rw[show z[k]=z.getD k 0 by simp[List.getD,hkz]] at m6;have o4:=fun W:World=>qZ (cI5 (z.getD k 0) ((qb.length:Int)-qs+1) m6 (by omega) W)
 rw[t9] at o4;obtain⟨zk,B2⟩:∃zk,zk=z.getD k 0:=⟨_,rfl⟩
 rw[<-B2] at f8 m6 o4;have t4:(k:Int)<(z.length:Int):=by omega
 have C2:IntKind.i64.wrap ((qb.length:Int)-(qs:Int))=(qb.length:Int)-qs:=mH _ (by omega);have C8:IntKind.i64.wrap ((qb.length:Int)-(qs:Int)+1)=(qb.length:Int)-qs+1:=mH _ (by omega);have D0:IntKind.i64.wrap ((qs:Int)+(nn:Int))=(qs:Int)+nn:=mH _ (by omega);subst hA;obtain⟨s,hs⟩:∃s,s=qs+nn:=⟨_,rfl⟩
 have l8:=HD.out.boot1 HQ.out (qs+nn) p5 1;have m4:=qZ (g8.trans hs.symm);rw[<-hs] at p5 l8;have z8:(qs:Int)+(nn:Int)=(s:Int):=by omega
 have C1:=qZ z8;have x6:=qZ l8;clear t9 g8 B1 n5 B2 hs l8 z8;go_wp2_with fail
 refine aD4 23 (by kernel_rfl) (S:=fun W=>W.cell? ⟨blk,0,none⟩=some (.slice Ax qb.length cx)∧W.cell? ⟨blk,1,none⟩=some (.int .i64 (qs:Int))∧W.cell? (o9.add k)=some (.int .i64 zk)∧True) ⟨e0,e1,f8,trivial⟩ (fun hHeld=>?_);refine zU 0 (k:=?_);refine zU 1 (k:=?_);refine zU 2 (k:=?_);refine zU 3 (k:=?_);refine zU 4 (k:=?_);refine zU 5 (k:=?_);refine zU 6 (k:=?_);refine zU 7 (k:=?_);refine zU 8 (k:=?_);refine zU 9 (k:=?_);refine zU 10 (k:=?_);refine zU 11 (k:=?_);refine zU 12 (k:=?_);refine zU 13 (k:=?_);refine zU 14 (k:=?_);refine zU 15 (k:=?_);refine zU 16 (k:=?_);refine zU 17 (k:=?_);refine zU 18 (k:=?_);simp only[zA,zB,zF,zG,zC,zD,zE];refine zW 19 (k:=fun K hK=>?_);simp only[zA,zB];go_simp;refine(o4 _).out.mono ?_;rintro e w' ⟨rfl,rfl⟩;refine hK.out _ _ ⟨e0,e1,f8,trivial⟩ (fun hHeld=>?_);clear hK K;try simp only[zF,zG,zC,zD,zE]
 refine zW 20 (k:=fun K hK=>?_);simp only[zA,zB];go_simp;refine hK.out _ _ ⟨e0,e1,f8,trivial⟩ (fun hHeld=>?_);clear hK K;try simp only[zF,zG,zC,zD,zE]
 refine zW 21 (k:=fun K hK=>?_);simp only[zA,zB];go_simp;refine hK.out _ _ ⟨e0,e1,f8,trivial⟩ (fun hHeld=>?_);clear hK K;try simp only[zF,zG,zC,zD,zE]
 refine zW 22 (k:=fun K hK=>?_);simp only[zA,zB];go_simp;refine hK.out _ _ ⟨e0,e1,f8,trivial⟩ (fun hHeld=>?_);clear hK K;try simp only[zF,zG,zC,zD,zE]
 refine aG6 (t:=23) (by simp) (by kernel_rfl) (by kernel_rfl) (fun K hK=>?_);simp only[zA,zB];go_simp;refine hK.out _ _ ?_;clear hK K hHeld;rw[C1.out];obtain⟨W1,l6⟩:∃W1,W1=(wr.setCell ⟨blk,1,none⟩ (.int .i64 (s:Int))).drew:=⟨_,rfl⟩
 have l8:aB4 W1 base g m p room (aB7 qn ⟨blk,qv,⟨qb,s⟩⟩ a8)∧Fr (aB1 g m a8) wr W1∧(∀k,aB1 g m (aB7 qn ⟨blk,qv,⟨qb,s⟩⟩ a8) k->aB1 g m a8 k∨wr.heap.size<=k):=by rw[l6];exact x6.out
 have l4:=qZ l8.1;have m5:=qZ l8.2.1;have m3:=qZ l8.2.2;have j9:=qZ (aV6 qn (⟨blk,qv,⟨qb,s⟩⟩:FE) a8);have i6:=fun v=>qZ (bW5 qn (⟨blk,v,⟨qb.take s,s⟩⟩:FE) (⟨blk,qv,⟨qb,s⟩⟩:FE) a8)
 rw[<-l6];clear l8 l6 x6 e0 e1 u0 u1 C2 C8 D0 f8 o4;go_wp2_with fail
 have f9:(qb.take s).length=s:=by rw[lV];omega
 have a9:=aC8 j9.out;have b8:=l4.out.file _ a9;have f7:blk<W1.heap.size:=b8.lt;obtain⟨A8,c8,h8,_,_,r8⟩:=(l4.out.got _ a9).shape;simp only at h8 r8 b8;have h9:qv=.slice Ax qb.length cx:=HV.out;rw[h9] at h8;have e0:W1.cell? ⟨blk,0,none⟩=some (.slice Ax qb.length cx):=by rw[<-h9];exact b8.cell 0
 have e1:W1.cell? ⟨blk,1,none⟩=some (.int .i64 (s:Int)):=b8.cell 1;injection h8 with h8 h8b h8c
 clear h8b h8c;have g9:Rd W1 W1.heap.size Ax (cells (qb.take s)):=by rw[h8];unfold cells;rw[List.map_take];exact Rd.take r8 _
 have t7:s<=cx:=by omega
 have hcut:=fun W:World=>aQ2 (P:=Tryz.prog) Tryz.underlying34 aC6 Ax qb.length cx 0 s (by omega) (by omega) 0 (s:Int) rfl rfl W
 have m9:=qZ (aQ7 Ax (qb.take s) s cx f9.symm W1.drew (show Rd W1.drew W1.drew.heap.size Ax _ from g9) (by omega));have j8:=qZ f9;have p6:=qZ b8;clear h8 r8 h9 g9 a9 b8 f9;refine aD4 13 (by kernel_rfl) (S:=fun W=>W.cell? ⟨blk,0,none⟩=some (.slice Ax qb.length cx)∧W.cell? ⟨blk,1,none⟩=some (.int .i64 (s:Int))∧True∧True) ⟨e0,e1,trivial,trivial⟩ (fun hHeld=>?_);refine zU 0 (k:=?_);refine zU 1 (k:=?_);refine zU 2 (k:=?_);refine zU 3 (k:=?_);refine zU 4 (k:=?_);refine zU 5 (k:=?_);refine zU 6 (k:=?_);refine zU 7 (k:=?_);refine zU 8 (k:=?_);refine zU 9 (k:=?_);simp only[zA,zB,zF,zG,zC,zD,zE];refine zW 10 (k:=fun K hK=>?_);simp only[zA,zB];go_simp;refine(m9.out).mono ?_;rintro e W2 ⟨v5,rfl,l9,j6⟩;obtain⟨A5,c5,m8,_⟩:=aC5 l9;rw[j8.out] at m8;subst m8;have b0:=j6.cell (p:=⟨blk,0,none⟩) f7;have b1:=j6.cell (p:=⟨blk,1,none⟩) f7;rw[show W1.drew.cell? ⟨blk,0,none⟩=_ from e0] at b0;rw[show W1.drew.cell? ⟨blk,1,none⟩=_ from e1] at b1;have i4:Below W1.heap.size W1 W2:=(lS _ W1).drew.trans j6;have n9:Blk W2 blk 83 _:=(j6.block blk f7).trans p6.out;have b2:W2.frozen? ⟨blk,0,none⟩=false:=n9.frozen 0;have f6:=aB4.boot2 l4.out i4 j9.out (v:=.slice A5 s c5) (l:=qb.take s) (by rw[j8.out];exact lR _) (Got.of_own l9);rw[(i6 _).out] at f6;have d8:=qZ f6;clear j6 i4 l9 n9 f6;refine hK.out _ _ ⟨b0,b1,trivial,trivial⟩ (fun hHeld=>?_);clear hK K;try simp only[zF,zG,zC,zD,zE]
 refine zW 11 (k:=fun K hK=>?_);simp only[zA,zB];go_simp;refine hK.out _ _ ⟨b0,b1,trivial,trivial⟩ (fun hHeld=>?_);clear hK K;try simp only[zF,zG,zC,zD,zE]
 refine zW 12 (k:=fun K hK=>?_);simp only[zA,zB];go_simp;refine hK.out _ _ ⟨b0,b1,trivial,trivial⟩ (fun hHeld=>?_);clear hK K;try simp only[zF,zG,zC,zD,zE]
 refine aG6 (t:=13) (by simp) (by kernel_rfl) (by kernel_rfl) (fun K hK=>?_);simp only[zA,zB];go_simp;refine hK.out _ _ ?_;clear hK K hHeld b0 b1 b2 hcut m9 e0 e1;have n8:=qZ ((HF.out.trans m5.out HK.out).trans d8.out.2.1 (fun j hj=>by
  rcases m3.out j hj with h|h
  ·exact HK.out j h
  exact .inr (Nat.le_trans HF.out.size h)))
 have q8:Hid (∀j,aB1 g m (aB7 qn ⟨blk,.slice A5 s c5,⟨qb.take s,s⟩⟩ a8) j->aB1 g m es j∨w1.heap.size<=j):=qZ (fun j hj=>by
  rcases d8.out.2.2 j hj with h|h
  ·rcases m3.out j h with h|h
   ·exact HK.out j h
   exact .inr (Nat.le_trans HF.out.size h)
  exact .inr (Nat.le_trans (Nat.le_trans HF.out.size m5.out.size) h))
 have m0:=qZ (d9.out s (.slice A5 s c5) m4.out.symm);have p0:=qZ d8.out.1;clear d8 d9 l4 j9 m5 m3 i6;go_wp2_with fail
 go_roundw
 case rel=>exact⟨k+1,_,by omega,by go_num,p0,m0,n8,q8⟩
 case measure=>simp[intOf];omega
end
end
section
open Go.RowKit Go.Maps Go.Sort Oct
section
variable{w w1 w2 wr w' :World}{base g m:Nat}{p p' :PWD}{room:Int}{es es' :List (Nm×FE)}
theorem dE2{N:Nat}{v:Value}{rs:List (Nm×RF)}(h:aO9 w N v rs)(hg:∀q∈rs,Got w N q.2.v q.2.f.b):∃A c,v=.slice A rs.length c∧FRd w A rs:=by
 rcases h.2 with⟨hn,h0⟩|⟨b,cap,b8,hv,hb,hk,hc,a8,a9,hx⟩
 ·have:rs=[]:=mD h0
  subst this;exact⟨none,0,hn,fun k hk=>absurd hk (by simp),fun q hq=>by cases hq⟩
 refine⟨_,cap,hv,fun k hk' =>⟨b,rfl,(Array.getElem?_eq_some_iff.1 hk).1,?_,?_,?_⟩,fun q hq=>?_⟩
 ·rw[World.ownsRow.cellAt (hv▸h) (k*3) (by omega)]
  exact aO2 rs hk' (j:=0) (by omega)
 ·rw[World.ownsRow.cellAt (hv▸h) (k*3+1) (by omega)]
  exact aO2 rs hk' (j:=1) (by omega)
 ·rw[World.ownsRow.cellAt (hv▸h) (k*3+2) (by omega)]
  exact aO2 rs hk' (j:=2) (by omega)
 obtain⟨Ax,cx,h1,_,_,h2⟩:=(hg q hq).shape;exact⟨Ax,cx,h1,h2⟩
theorem cW6(h:aB4 w base g m p room es)(hl:es.length<=549755813888)(m8:∀q∈es,q.2.f.b.length<=140737488351232)(n8:∀q∈es,q.1.length<=140737488351232):
  Calls Tryz.prog 25 #[.pointer (some ⟨g,0,none⟩)] w fun e w' =>∃v rs,e=.returned v∧aO9 w' w.heap.size v rs∧(∀q∈rs,Got w' w.heap.size q.2.v q.2.f.b)∧sec RF.f rs=sec FE.f es∧Below w.heap.size w w' :=by
 have m7:=qZ (bB7 h (by omega));have H:=qZ h;have p5:=qZ m8;have p0:=qZ n8;clear h m8 n8;go_enter Tryz.func25,Tryz.ntmps25
 go_wp2_with fail
 refine m7.out.mono ?_;rintro e w1 ⟨vn,rfl,m9,l5⟩;obtain⟨An,cn,rfl,_,_,f7⟩:=m9.shape;rw[lU];have HN:=qZ f7;have p9:=qZ l5;have m4:=l5.size;have HD:=qZ (H.out.below l5);clear m9 f7 l5 m7;go_wp2_with fail
 go_loopw [3,9] (fun o i wr=>∃(k:Nat) (rs:List (Nm×RF)),k<=es.length∧i=.int .i64 k∧Hid (aO9 wr w1.heap.size o rs)∧Hid (∀q∈rs,Got wr w1.heap.size q.2.v q.2.f.b)∧Hid (sec RF.f rs=(sec FE.f es).take k)∧Hid (Below w1.heap.size w1 wr)) (fun _ i _=>es.length-(intOf i).toNat)
 case atStart=>exact⟨0,[],by omega,rfl,qZ (aO9.nil _ _),qZ (fun q hq=>by cases hq),qZ rfl,qZ (lS _ _)⟩
 obtain⟨k,rs,hk,rfl,HR,HG,HS,HB⟩:=hrel;have q6:rs.length<=k:=by have:=congrArg List.length HS.out;simp only[sec,lU,lV] at this;omega
 have n5:=HB.out.size;obtain⟨Ao,co,o4⟩:=HR.out.shape;by_cases hlt:k<es.length
 rotate_left
 ·have e:sec RF.f rs=sec FE.f es:=by rw[HS.out];exact List.take_of_length_le (by rw[aH5];omega)
  have HE:=qZ e;subst o4;clear e;go_wp2_with fail
  go_ret
  exact⟨_,rs,rfl,cH2 HR.out m4,fun q hq=>(HG.out q hq).mono m4,HE.out,p9.out.trans (HB.out.mono m4)⟩
 have d9:=HD.out.below HB.out;obtain⟨⟨_,_,_,_,_,d5⟩,_⟩:=aL0 d9.blk;have hm:es[k]∈es:=lX hlt;have f9:=d9.file _ hm;obtain⟨Ax,cx,hv,n6,s9,m5⟩:=(d9.got _ hm).shape;have m0:=p5.out _ hm;have p7:=p0.out _ hm;have j8:=bU5 d9.rising hlt;obtain⟨n9,o5,i6,n7⟩:=aQ1 (f:=fun q:Nm×FE=>Value.string (str q.1)) HN.out hlt;have i4:wr.cell? (n9.add k)=some (.string (str es[k].1)):=(World.cell?_of_block (w:=w1) (by rw[aC7];exact HB.out.block n9.block i6)).trans n7;have HM:=qZ d9.map;have f8:Hid (∀W,aF8 Tryz.prog 9 W m (sec FE.blk es)->(Instr.lookup 59 (.map (some m)) (.string (str es[k].1)) false).run Tryz.prog W=.ok (.pointer (some ⟨es[k].2.blk,0,none⟩)) W):=qZ (fun W hW=>by
  have hl:=hW.get Tryz.underlying9 Tryz.underlying59 (aT0 W) (str es[k].1) (by rw[aK1];unfold maxLen;omega);rw[bU1,aH6,j8] at hl;exact hl)
 have o8:g<wr.heap.size:=d9.blk.lt;have g8:g<w1.heap.size:=HD.out.blk.lt;have l4:m<w1.heap.size:=HD.out.map.lt;have a8:=(HD.out.file _ hm).lt;have l8:Hid (∀v,sec RF.f (rs++[(es[k].1,⟨v,es[k].2.f⟩)])=(sec FE.f es).take (k+1)):=qZ (fun v=>by
  rw[List.take_succ_eq_append_getElem (by rw[aH5];exact hlt),<-HS.out];simp[sec])
 obtain⟨q,hq⟩:∃q,q=es[k]:=⟨_,rfl⟩
 rw[<-hq] at f9 hv n6 m5 m0 p7 i4 f8 l8 a8;have e0:wr.cell? ⟨q.2.blk,0,none⟩=some (.slice Ax q.2.f.b.length cx):=by rw[<-hv];exact f9.cell 0
 have e1:wr.cell? ⟨q.2.blk,1,none⟩=some (.int .i64 q.2.f.safe):=f9.cell 1;have m6:q.2.blk<wr.heap.size:=f9.lt;have m2:=qZ (aQ7 Ax q.2.f.b q.2.f.b.length cx rfl wr.drew (show Rd wr.drew wr.drew.heap.size Ax _ from m5) m0);have q8:(k:Int)<(es.length:Int):=by omega
 obtain⟨qn,blk,qv,qb,qs⟩:=q;simp only at e0 e1 m6 n6 m0 i4 f8 m2 l8 a8;have a9:blk<w1.heap.size:=a8;subst o5;subst o4;clear hm f9 hv m5 j8 n7 hq i6 d9;go_wp2_with fail
 refine wp_region_held_drew (by kernel_rfl) (S:=fun W=>W.cell? ⟨g,5,none⟩=some (.map (some m))∧aF8 Tryz.prog 9 W m (sec FE.blk es)∧W.cell? ⟨blk,0,none⟩=some (.slice Ax qb.length cx)∧W.cell? ⟨blk,1,none⟩=some (.int .i64 (qs:Int))) ⟨d5,HM.out,e0,e1⟩ (fun hHeld=>?_);refine zT 0 (k:=?_);refine zT 1 (k:=?_);refine zT 2 (k:=?_);refine zT 3 (k:=?_);refine zT 4 (k:=?_);refine zT 5 (k:=?_);refine zT 6 (k:=?_);simp only[zA,zB,zF,zG,zC,zD,zE];refine aR0 7 (v:=?_) (by simp) (by kernel_rfl) (by kernel_rfl) (by kernel_rfl) (fun _ _ _ h=>h) (Or.inl ⟨by rfl,?_⟩) hHeld ?_
 case refine_2=>(intro w j6;(try dsimp only at j6);obtain⟨s0,s1,s2,s3⟩:=j6;have hl:=f8.out w s1;simp only[List.getElem_cons_zero,List.getElem_cons_succ];go_simp<;>with_reducible rfl)
 simp only[List.getElem_cons_zero,List.getElem_cons_succ,Act.put,List.setIfInBounds_toArray,List.set_cons_zero,List.set_cons_succ];refine zT 8 (k:=?_);refine zT 9 (k:=?_);refine zT 10 (k:=?_);refine zT 12 (k:=?_);refine zT 13 (k:=?_);refine zT 14 (k:=?_);refine zT 15 (k:=?_);refine zT 16 (k:=?_);simp only[zA,zB,zF,zG,zC,zD,zE];refine aR0 17 (v:=?_) (by simp) (by kernel_rfl) (by kernel_rfl) (by kernel_rfl) (fun _ _ _ h=>h) (Or.inl ⟨by rfl,?_⟩) hHeld ?_
 case refine_2=>(intro w j6;(try dsimp only at j6);obtain⟨s0,s1,s2,s3⟩:=j6;have hl:=f8.out w s1;simp only[List.getElem_cons_zero,List.getElem_cons_succ];go_simp<;>with_reducible rfl)
 simp only[List.getElem_cons_zero,List.getElem_cons_succ,Act.put,List.setIfInBounds_toArray,List.set_cons_zero,List.set_cons_succ];refine zT 18 (k:=?_);refine zT 19 (k:=?_);refine zT 20 (k:=?_);simp only[zA,zB,zF,zG,zC,zD,zE];refine zV 11 (k:=fun K hK=>?_);simp only[zA,zB];go_simp;refine m2.out.mono ?_;rintro e W2 ⟨v5,rfl,m3,d8⟩;obtain⟨A5,c5,o9,_⟩:=aC5 m3;subst o9;have t4:wr.heap.size<=W2.heap.size:=d8.size;have b0:=d8.cell (p:=⟨g,5,none⟩) o8;have b1:=d8.cell (p:=⟨blk,0,none⟩) m6;have b2:=d8.cell (p:=⟨blk,1,none⟩) m6;rw[show wr.drew.cell? ⟨g,5,none⟩=_ from d5] at b0;rw[show wr.drew.cell? ⟨blk,0,none⟩=_ from e0] at b1;rw[show wr.drew.cell? ⟨blk,1,none⟩=_ from e1] at b2;have g9:aF8 Tryz.prog 9 W2 m (sec FE.blk es):=HM.out.keep (d8.block m HM.out.lt);have j9:Below wr.heap.size wr W2:=(lS _ wr).drew.trans d8;have o6:=qZ (Got.of_own m3);have l7:=qZ j9;clear m3 d8 j9;refine hK.out _ _ ⟨b0,g9,b1,b2⟩ (fun hHeld=>?_);clear hK K;try simp only[zF,zG,zC,zD,zE]
 refine zV 21 (k:=fun K hK=>?_);simp only[zA,zB];go_simp;refine hK.out _ _ ⟨b0,g9,b1,b2⟩ (fun hHeld=>?_);clear hK K;try simp only[zF,zG,zC,zD,zE]
 refine zV 22 (k:=fun K hK=>?_);simp only[zA,zB];go_simp;have a0:(W2.alloc (.cells #[.string (str qn),.slice A5 qb.length c5,.int .i64 (qs:Int)] 85)).cell? ⟨g,5,none⟩=some (.map (some m)):=(World.cell?_alloc_lt W2 _ ⟨g,5,none⟩ (by show g<_;omega)).trans b0;have a1:(W2.alloc (.cells #[.string (str qn),.slice A5 qb.length c5,.int .i64 (qs:Int)] 85)).cell? ⟨blk,0,none⟩=some (.slice Ax qb.length cx):=(World.cell?_alloc_lt W2 _ ⟨blk,0,none⟩ (by show blk<_;omega)).trans b1;have a2:(W2.alloc (.cells #[.string (str qn),.slice A5 qb.length c5,.int .i64 (qs:Int)] 85)).cell? ⟨blk,1,none⟩=some (.int .i64 (qs:Int)):=(World.cell?_alloc_lt W2 _ ⟨blk,1,none⟩ (by show blk<_;omega)).trans b2;have aM:aF8 Tryz.prog 9 (W2.alloc (.cells #[.string (str qn),.slice A5 qb.length c5,.int .i64 (qs:Int)] 85)) m (sec FE.blk es):=g9.keep (Below.heap_alloc _ _ _ g9.lt);refine hK.out _ _ ⟨a0,aM,a1,a2⟩ (fun hHeld=>?_);clear hK K;try simp only[zF,zG,zC,zD,zE]
 refine zV 23 (k:=fun K hK=>?_);simp only[zA,zB];rw[if_pos (by rfl)];refine aI2 (.tmp 13) (.tmp 35) 68 rfl w1.heap.size 85 (.agg #[.string ⟨#[]⟩,.slice none 0 0,.int .i64 0]) 3 48 Tryz.underlying68 aO6 rfl (by decide) _ rs.length _ rfl ((HR.out.below l7.out).below ((lS _ W2).alloc (lR _) _)) ⟨W2.heap.size,0,none⟩ 1 1 [.string (str qn),.slice A5 qb.length c5,.int .i64 (qs:Int)] rfl rfl (aG0 (Blk.new _ 85 _)) (by simp[Value.oneCell']) (by unfold maxLen;omega) (by omega) (by simp;omega) ?_;intro v6 W6 b8 l6 _;obtain⟨r1,r2⟩:=aO9.push (wr:=W2) (q:=(qn,⟨.slice A5 qb.length c5,⟨qb,qs⟩⟩)) (HB.out.trans (l7.out.mono n5)) (by omega) (HR.out.below l7.out) rfl b8 l6;have f7:∀j,(Value.slice Ao rs.length co).ownBlock=some j->j<wr.heap.size:=fun j hj=>(HR.out.lt j hj).2
 have l9:∀j,j<W2.heap.size->(Value.slice Ao rs.length co).ownBlock≠some j->W6.heap[j]? =W2.heap[j]? :=fun j hj hne=>(l6.block j (by simp;omega) (fun e=>hne e.symm)).trans (Below.heap_alloc W2 _ j hj)
 have f6:W2.heap.size<=W6.heap.size:=by have:=l6.size;simp at this;omega
 have p4:Hid (∀q∈rs++[((qn,⟨.slice A5 qb.length c5,⟨qb,qs⟩⟩):Nm×RF)],Got W6 w1.heap.size q.2.v q.2.f.b):=qZ (fun q hq=>by
  rcases List.mem_append.1 hq with hq|hq
  ·have h1:=(HG.out q hq).below l7.out (lR _)
   exact h1.kept (fun j hj=>l9 j (h1.row.lt j hj) (bP2 HR.out (HG.out q hq) (by decide) j hj)) f6
  rw[List.mem_singleton.1 hq];have h1:Got W2 wr.heap.size (.slice A5 qb.length c5) qb:=o6.out;exact(h1.mono n5).kept (fun j hj=>l9 j (h1.row.lt j hj) (fun e=>by have h2:=f7 j e;have h3:=h1.row.base j hj;omega)) f6)
 obtain⟨A6,c6,n4⟩:=r1.shape;rw[lT,List.length_singleton] at n4;subst n4;have f0:=(r2.cell (p:=⟨g,5,none⟩) g8).trans ((HB.out.cell (p:=⟨g,5,none⟩) g8).symm.trans d5);have f1:=(r2.cell (p:=⟨blk,0,none⟩) a9).trans ((HB.out.cell (p:=⟨blk,0,none⟩) a9).symm.trans e0);have f2:=(r2.cell (p:=⟨blk,1,none⟩) a9).trans ((HB.out.cell (p:=⟨blk,1,none⟩) a9).symm.trans e1);have fM:aF8 Tryz.prog 9 W6 m (sec FE.blk es):=HM.out.keep ((r2.block m l4).trans (HB.out.block m l4).symm);have p8:=qZ r1;have o7:=qZ r2;have p6:=qZ (l8.out (.slice A5 qb.length c5));clear r1 r2 b8 l6 l9 f7;refine hK.out _ _ ⟨f0,fM,f1,f2⟩ (fun hHeld=>?_);clear hK K;try simp only[zF,zG,zC,zD,zE]
 refine zV 24 (k:=fun K hK=>?_);simp only[zA,zB];go_simp;refine hK.out _ _ ⟨f0,fM,f1,f2⟩ (fun hHeld=>?_);clear hK K;try simp only[zF,zG,zC,zD,zE]
 refine wpAnyH_done (by kernel_rfl) ?_ _;clear hHeld f0 fM f1 f2 a0 a1 a2 aM b0 b1 b2 g9 m2 f8 l8;go_wp2_with fail
 go_roundw
 case rel=>exact⟨k+1,_,by omega,by go_num,p8,p4,p6,o7⟩
 case measure=>simp[intOf];omega
end
end
end Go.Proofs.YtgeofijddhflaaaGreatDoor
