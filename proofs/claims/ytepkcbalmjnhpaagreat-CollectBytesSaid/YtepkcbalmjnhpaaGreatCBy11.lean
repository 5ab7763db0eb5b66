/-
  What the claim leans on, part 11.
-/
import Derived.Test.YtepkcbalmjnhpaaGreatCBy10
set_option maxRecDepth 100000
set_option maxHeartbeats 1000000
set_option linter.unusedVariables false
set_option linter.unusedSimpArgs false
namespace Go.Proofs.YtepkcbalmjnhpaaGreat
open Go.RowKit
abbrev Rk:=RRec
def sqAt (l : List Rk) (i : Nat) : Int:=((l[i]?).map RRec.gSeq).getD 0
theorem sqAt_some {l : List Rk} {i : Nat} {x : Rk} (h : l[i]? = some x) : sqAt l i = x.gSeq:=by simp [sqAt,h]
theorem sqAt_congr {l l' : List Rk} {i j : Nat} (h : l'[i]? = l[j]?) : sqAt l' i = sqAt l j:=by simp [sqAt,h]
structure Blq (l l' : List Rk) (a b : Nat) : Prop where
 len : l'.length = l.length
 out : ∀ i,i < a∨b≤i→l'[i]? = l[i]?
 ins : ∀ i,a≤i→i < b→∃ j,a≤j∧j < b∧l'[i]? = l[j]?
 perm : l'.Perm l
theorem Blq.refl (l : List Rk) (a b : Nat) : Blq l l a b := ⟨rfl,fun _ _=>rfl,fun i h1 h2=>⟨i,h1,h2,rfl⟩,List.Perm.refl _⟩
theorem Blq.trans {l l' l'' : List Rk} {a b : Nat} (h : Blq l l' a b) (k : Blq l' l'' a b) : Blq l l'' a b:=by
 refine ⟨k.len.trans h.len,fun i hi=>(k.out i hi).trans (h.out i hi),fun i h1 h2=>?_,k.perm.trans h.perm⟩
 obtain ⟨j,j1,j2,j3⟩ := k.ins i h1 h2
 obtain ⟨m,m1,m2,m3⟩ := h.ins j j1 j2
 exact ⟨m,m1,m2,j3.trans m3⟩
theorem Blq.mono {l l' : List Rk} {a b a' b' : Nat} (h : Blq l l' a b) (ha : a'≤a) (hb : b≤b') : Blq l l' a' b' := by
 refine ⟨h.len,fun i hi=>h.out i (by omega),fun i h1 h2=>?_,h.perm⟩
 by_cases hi : i < a∨b≤i
 ·exact ⟨i,h1,h2,h.out i hi⟩
 ·obtain ⟨j,j1,j2,j3⟩ := h.ins i (by omega) (by omega)
  exact ⟨j,by omega,by omega,j3⟩
def Srt (l : List Rk) (a b : Nat) : Prop := ∀ p q,a≤p→p < q→q < b→sqAt l p≤sqAt l q
theorem Srt.le {l : List Rk} {a b : Nat} (h : Srt l a b) {p q : Nat} (h1 : a≤p) (h2 : p≤q) (h3 : q < b) : sqAt l p≤sqAt l q:=by
 rcases Nat.lt_or_eq_of_le h2 with h4 | h4
 ·exact h p q h1 h4 h3
 ·rw [h4]; exact Int.le_refl _
theorem Srt.congr {l l' : List Rk} {a b : Nat} (h : Srt l a b) (he : ∀ i,a≤i→i < b→l'[i]? = l[i]?) : Srt l' a b:=fun p q h1 h2 h3=>by
 rw [sqAt_congr (he p h1 (by omega)),sqAt_congr (he q (by omega) h3)]
 exact h p q h1 h2 h3
theorem Srt.sub {l : List Rk} {a b a' b' : Nat} (h : Srt l a b) (h1 : a≤a') (h2 : b'≤b) : Srt l a' b' := fun p q k1 k2 k3=>h p q (by omega) k2 (by omega)
theorem swp_get {l : List Rk} {i j : Nat} {x y : Rk} (hx : l[i]? = some x) (hy : l[j]? = some y) (k : Nat) : ((l.set i y).set j x)[k]? = if k = j then l[i]? else if k = i then l[j]? else l[k]? := by
 have h1:=(List.getElem?_eq_some_iff.1 hx).1
 have h2:=(List.getElem?_eq_some_iff.1 hy).1
 rw [List.getElem?_set,List.getElem?_set]
 by_cases e1 : k = j
 ·subst e1
  simp [h2,hx]
 ·have e1' : ¬ j = k:=fun e=>e1 e.symm
  rw [if_neg e1',if_neg e1]
  by_cases e2 : k = i
  ·subst e2
   simp [h1,hy]
  ·have e2' : ¬ i = k:=fun e=>e2 e.symm
   rw [if_neg e2',if_neg e2]
theorem swp_blk {l : List Rk} {i j a b : Nat} {x y : Rk} (hx : l[i]? = some x) (hy : l[j]? = some y) (i1 : a≤i) (i2 : i < b) (j1 : a≤j) (j2 : j < b) : Blq l ((l.set i y).set j x) a b:=by
 have h1:=List.getElem?_eq_some_iff.1 hx
 have h2:=List.getElem?_eq_some_iff.1 hy
 obtain ⟨h1,rfl⟩ := h1
 obtain ⟨h2,rfl⟩ := h2
 refine ⟨by simp,fun k hk=>?_,fun k k1 k2=>?_,List.set_set_perm h1 h2⟩
 ·rw [swp_get hx hy,if_neg (by omega),if_neg (by omega)]
 ·rw [swp_get hx hy]
  by_cases e1 : k = j
  ·exact ⟨i,i1,i2,by rw [if_pos e1]⟩
  ·by_cases e2 : k = i
   ·exact ⟨j,j1,j2,by rw [if_neg e1,if_pos e2]⟩
   ·exact ⟨k,k1,k2,by rw [if_neg e1,if_neg e2]⟩
theorem get_some {l : List Rk} {i : Nat} (h : i < l.length) : ∃ x,l[i]? = some x := ⟨_,List.getElem?_eq_getElem h⟩
theorem idx_q {l : List Rk} {i : Nat} {x : Rk} (h : l[i]? = some x) : idx l (i : Int) = some x:=by simp [idx,h]
theorem bySeq_some (x y : Rk) : ∃ v,collect_bySeq x y = some v∧decide (v < 0) = decide (x.gSeq < y.gSeq):=by
 unfold collect_bySeq
 by_cases h1 : x.gSeq < y.gSeq
 ·exact ⟨-1,by simp [h1],by simp [h1]⟩
 ·by_cases h2 : y.gSeq < x.gSeq
  ·exact ⟨1,by simp [h1,h2],by simp [h1]⟩
  ·exact ⟨0,by simp [h1,h2],by simp [h1]⟩
theorem half_eq {x y : Nat} (h : x + y < 9223372036854775808) : IntKind.wrap .i64 (Int.fdiv (IntKind.wrap .u64 (IntKind.wrap .i64 ((x : Int) + (y : Int)))) (2 ^ min (Int.toNat 1) (IntKind.bits .u64))) = (((x + y) / 2 : Nat) : Int):=by
 have h2 : (2 : Int) ^ min (Int.toNat 1) (IntKind.bits .u64) = 2:=by decide
 rw [h2,wrap_i64 (n:=(x : Int) + (y : Int)) (by omega) (by omega),wrap_u64 (by omega) (by omega),Int.fdiv_eq_ediv_of_nonneg _ (by omega),wrap_i64 (by omega) (by omega)]
 omega
theorem bsearch {step : Int × Int→Option (Ctl (Int × Int) Int)} (P : Nat→Prop) (lo hi : Nat) (h : lo≤hi) (hb : hi < 2305843009213693952)
  (hstep : ∀ i j : Nat,lo≤i→i < j→j≤hi→(P ((i + j) / 2)∧step ((i : Int),(j : Int)) = some (.next ((((i + j) / 2 : Nat) : Int) + 1,(j : Int))))∨(¬ P ((i + j) / 2)∧step ((i : Int),(j : Int)) = some (.next ((i : Int),(((i + j) / 2 : Nat) : Int)))))
  (hdone : ∀ i : Nat,lo≤i→i≤hi→step ((i : Int),(i : Int)) = some (.done (i : Int))) : ∃ e : Nat,whileM step ((lo : Int),(hi : Int)) = some (e : Int)∧lo≤e∧e≤hi∧(lo < e→P (e - 1))∧(e < hi→¬ P e):=by
 have:=whileM_ind (S:=Int × Int) (E:=Int) (step:=step) (s0:=((lo : Int),(hi : Int))) (fun s=>∃ i j : Nat,s = ((i : Int),(j : Int))∧lo≤i∧i≤j∧j≤hi∧(lo < i→P (i - 1))∧(j < hi→¬ P j)) (fun s=>(s.2 - s.1).toNat) (fun e=>∃ n : Nat,e = (n : Int)∧lo≤n∧n≤hi∧(lo < n→P (n - 1))∧(n < hi→¬ P n))
  ⟨lo,hi,rfl,Nat.le_refl _,h,Nat.le_refl _,fun h=>absurd h (Nat.lt_irrefl _),fun h=>absurd h (Nat.lt_irrefl _)⟩ (by dsimp only; omega) ?_
 ·obtain ⟨e,h1,n,rfl,h2⟩ := this
  exact ⟨n,h1,h2⟩
 ·rintro s ⟨i,j,rfl,h1,h2,h3,h4,h5⟩
  rcases Nat.lt_or_eq_of_le h2 with h6 | h6
  ·refine .inl ?_
   rcases hstep i j h1 h6 h3 with ⟨hp,hs⟩ | ⟨hp,hs⟩
   ·refine ⟨_,hs,⟨(i + j) / 2 + 1,j,by simp,by omega,by omega,h3,fun _=>by simpa using hp,h5⟩,by dsimp only; omega⟩
   ·refine ⟨_,hs,⟨i,(i + j) / 2,rfl,h1,by omega,by omega,h4,fun _=>hp⟩,by dsimp only; omega⟩
  ·subst h6
   exact .inr ⟨_,hdone i h1 h3,i,rfl,h1,h3,h4,h5⟩
theorem ins_inner (l : List Rk) (a i : Nat) (hi : i < l.length) (ha : a≤i) (hl : l.length < 2305843009213693952) (hs : Srt l a i) : ∃ l',whileM (E:=List Rk) (fun s=>insM_L4 (a : Int) s.1 s.2) (l,(i : Int)) = some l'∧Blq l l' a (i + 1)∧Srt l' a (i + 1):=by
 refine whileM_ind (S:=List Rk × Int) (E:=List Rk) (fun s=>∃ j : Nat,s.2 = (j : Int)∧a≤j∧j≤i∧Blq l s.1 a (i + 1)∧∀ p q,a≤p→p < q→q≤i→q≠j→sqAt s.1 p≤sqAt s.1 q) (fun s=>s.2.toNat) (fun l'=>Blq l l' a (i + 1)∧Srt l' a (i + 1)) ⟨i,rfl,ha,Nat.le_refl _,Blq.refl _ _ _,fun p q h1 h2 h3 h4=>hs p q h1 h2 (by omega)⟩ (by dsimp only; omega) ?_
 rintro ⟨l1,jj⟩ ⟨j,hj,j1,j2,hB,hS⟩
 dsimp only at hj hB hS ⊢
 subst hj
 unfold insM_L4
 have hlen:=hB.len
 by_cases hc : a < j
 ·obtain ⟨x,hx⟩ := get_some (l:=l1) (i:=j) (by omega)
  obtain ⟨y,hy⟩ := get_some (l:=l1) (i:=j - 1) (by omega)
  have hw : IntKind.wrap .i64 ((j : Int) - 1) = ((j - 1 : Nat) : Int):=by rw [wrap_i64 (by omega) (by omega)]; omega
  obtain ⟨v,hv1,hv2⟩ := bySeq_some x y
  have hd : decide ((a : Int) < (j : Int)) = true:=by simp; omega
  rw [hw,idx_q hx,idx_q hy]
  simp only [gb,hd,if_true,Option.bind_some,hv1,Bool.true_and,hv2]
  by_cases hxy : x.gSeq < y.gSeq
  ·refine .inl ⟨((l1.set j y).set (j - 1) x,((j - 1 : Nat) : Int)),?_,⟨j - 1,rfl,by omega,by omega,hB.trans (swp_blk hx hy (by omega) (by omega) (by omega) (by omega)),fun p q h1 h2 h3 h4=>?_⟩,by dsimp only; omega⟩
   ·have hset : idx (l1.set j y) ((j - 1 : Nat) : Int) = some y:=by
     refine idx_q ?_
     rw [List.getElem?_set,if_neg (by omega),hy]
    simp only [hxy,decide_true,if_true,Int.toNat_natCast,hset,Option.bind_some]
   ·have ex : sqAt l1 j = x.gSeq:=sqAt_some hx
    have ey : sqAt l1 (j - 1) = y.gSeq:=sqAt_some hy
    have key : ∀ k,sqAt ((l1.set j y).set (j - 1) x) k = if k = j - 1 then x.gSeq else if k = j then y.gSeq else sqAt l1 k:=by
     intro k
     unfold sqAt
     rw [swp_get hx hy]
     by_cases e1 : k = j - 1
     ·simp [e1,hx]
     ·by_cases e2 : k = j
      ·subst e2; simp [e1,hy]
      ·simp [e1,e2]
    dsimp only
    rw [key,key]
    by_cases q1 : q = j
    ·subst q1
     rw [if_neg h4,if_pos rfl]
     by_cases p1 : p = q - 1
     ·rw [if_pos p1]; omega
     ·rw [if_neg p1,if_neg (by omega)]
      have:=hS p (q - 1) h1 (by omega) (by omega) (by omega)
      omega
    ·rw [if_neg h4,if_neg q1]
     by_cases p1 : p = j - 1
     ·rw [if_pos p1]
      have:=hS j q (by omega) (by omega) h3 (by omega)
      omega
     ·rw [if_neg p1]
      by_cases p2 : p = j
      ·rw [if_pos p2]
       have:=hS (j - 1) q (by omega) (by omega) h3 (by omega)
       omega
      ·rw [if_neg p2]
       exact hS p q h1 h2 h3 (by omega)
  ·refine .inr ⟨l1,by simp [hxy],hB,fun p q h1 h2 h3=>?_⟩
   by_cases q1 : q = j
   ·subst q1
    have ex : sqAt l1 q = x.gSeq:=sqAt_some hx
    have ey : sqAt l1 (q - 1) = y.gSeq:=sqAt_some hy
    by_cases p1 : p = q - 1
    ·subst p1; omega
    ·have:=hS p (q - 1) h1 (by omega) (by omega) (by omega)
     omega
   ·exact hS p q h1 h2 (by omega) q1
 ·have hd : decide ((a : Int) < (j : Int)) = false:=by simp; omega
  refine .inr ⟨l1,by simp only [gb,hd,Bool.false_and,Bool.false_eq_true,if_false,Option.bind_some],hB,fun p q h1 h2 h3=>hS p q h1 h2 (by omega) (by omega)⟩
theorem ins_spec (l : List Rk) (a b : Nat) (hab : a≤b) (hb : b≤l.length) (hl : l.length < 2305843009213693952) : ∃ l',insM (a : Int) (b : Int) l = some l'∧Blq l l' a b∧Srt l' a b:=by
 have hw : IntKind.wrap .i64 ((a : Int) + 1) = ((a + 1 : Nat) : Int):=by rw [wrap_i64 (by omega) (by omega)]; omega
 have : ∃ l',whileM (E:=List Rk) (fun s=>insM_L2 (a : Int) (b : Int) s.1 s.2) (l,((a + 1 : Nat) : Int)) = some l'∧Blq l l' a b∧Srt l' a b:=by
  refine whileM_ind (S:=List Rk × Int) (E:=List Rk) (fun s=>∃ i : Nat,s.2 = (i : Int)∧a + 1≤i∧i≤max b (a + 1)∧Blq l s.1 a b∧Srt s.1 a i) (fun s=>((b : Int) - s.2).toNat) (fun l'=>Blq l l' a b∧Srt l' a b) ⟨a + 1,rfl,Nat.le_refl _,by omega,Blq.refl _ _ _,fun p q h1 h2 h3=>by omega⟩ (by dsimp only; omega) ?_
  rintro ⟨l1,ii⟩ ⟨i,hi,i1,i2,hB,hS⟩
  dsimp only at hi hB hS ⊢
  subst hi
  unfold insM_L2
  have hlen:=hB.len
  by_cases hc : i < b
  ·obtain ⟨l',h1,h2,h3⟩ := ins_inner l1 a i (by omega) (by omega) (by omega) hS
   have hd : decide ((i : Int) < (b : Int)) = true:=by simp; omega
   have hw2 : IntKind.wrap .i64 ((i : Int) + 1) = ((i + 1 : Nat) : Int):=by rw [wrap_i64 (by omega) (by omega)]; omega
   refine .inl ⟨(l',((i + 1 : Nat) : Int)),?_,⟨i + 1,rfl,by omega,by omega,hB.trans (h2.mono (Nat.le_refl _) (by omega)),h3⟩,by dsimp only; omega⟩
   rw [hd,if_pos rfl,h1,Option.bind_some,insM_K3,hw2]
  ·have hd : decide ((i : Int) < (b : Int)) = false:=by simp; omega
   exact .inr ⟨l1,by rw [hd]; rfl,hB,hS.sub (Nat.le_refl _) (by omega)⟩
 obtain ⟨l',h1,h2⟩ := this
 refine ⟨l',?_,h2⟩
 unfold insM
 rw [hw,h1]
 rfl
theorem swr_spec (P A B C S : List Rk) (n : Nat) (hA : A.length = n) (hC : C.length = n) (hl : (P++A++B++C++S).length < 2305843009213693952) : swpM ((P.length : Nat) : Int) (((P++A++B).length : Nat) : Int) (n : Int) (P++A++B++C++S) = some (P++C++B++A++S):=by
 unfold swpM
 simp only [List.length_append] at hl
 have:=whileM_spec (S:=List Rk × Int) (E:=List Rk) (step:=fun s=>swpM_L2 ((P.length : Nat) : Int) (((P++A++B).length : Nat) : Int) (n : Int) s.1 s.2) (s0:=(P++A++B++C++S,0)) (e:=P++C++B++A++S) n (fun i=>(P++(C.take i++A.drop i)++B++(A.take i++C.drop i)++S,(i : Int))) (by simp) (by omega) (fun i hi=>?_) (by
  unfold swpM_L2
  simp only [Int.lt_irrefl,decide_false,Bool.false_eq_true,if_false]
  rw [List.take_of_length_le (by omega),List.take_of_length_le (by omega),List.drop_eq_nil_of_le (by omega),List.drop_eq_nil_of_le (by omega),List.append_nil,List.append_nil])
 ·rw [this]; rfl
 ·unfold swpM_L2
  have hd : decide ((i : Int) < (n : Int)) = true:=by simp; omega
  dsimp only
  rw [hd,if_pos rfl]
  obtain ⟨x,A2,hA2⟩ : ∃ x A2,A.drop i = x :: A2 := ⟨_,_,List.drop_eq_getElem_cons (by omega)⟩
  obtain ⟨y,C2,hC2⟩ : ∃ y C2,C.drop i = y :: C2 := ⟨_,_,List.drop_eq_getElem_cons (by omega)⟩
  have hA3 : A.take (i + 1) = A.take i++[x]:=by
   have : A[i]? = some x:=by have:=congrArg List.head? hA2; simpa [List.head?_drop] using this
   rw [List.take_add_one,this]; rfl
  have hC3 : C.take (i + 1) = C.take i++[y]:=by
   have : C[i]? = some y:=by have:=congrArg List.head? hC2; simpa [List.head?_drop] using this
   rw [List.take_add_one,this]; rfl
  have hA4 : A.drop (i + 1) = A2:=by rw [← List.drop_drop,hA2]; rfl
  have hC4 : C.drop (i + 1) = C2:=by rw [← List.drop_drop,hC2]; rfl
  have lt : (C.take i).length = i:=by simp; omega
  have lt' : (A.take i).length = i:=by simp; omega
  have la2 : A2.length = n - i - 1:=by rw [← hA4]; simp; omega
  rw [hA2,hC2,hA3,hC3,hA4,hC4]
  have w1 : IntKind.wrap .i64 (((P.length : Nat) : Int) + (i : Int)) = ((P.length + i : Nat) : Int):=by rw [wrap_i64 (by omega) (by omega)]; omega
  have w2 : IntKind.wrap .i64 ((((P++A++B).length : Nat) : Int) + (i : Int)) = ((P.length + n + B.length + i : Nat) : Int):=by
   simp only [List.length_append]
   rw [wrap_i64 (by omega) (by omega)]; omega
  rw [w1,w2]
  have g1 : idx (P++(C.take i++x :: A2)++B++(A.take i++y :: C2)++S) ((P.length + i : Nat) : Int) = some x:=by
   refine idx_q ?_
   rw [List.append_assoc,List.append_assoc,List.append_assoc,List.getElem?_append_right (by omega),List.append_assoc,List.getElem?_append_right (by omega)]
   simp [lt]
  have g2 : idx (P++(C.take i++x :: A2)++B++(A.take i++y :: C2)++S) ((P.length + n + B.length + i : Nat) : Int) = some y:=by
   refine idx_q ?_
   have e : P.length + n + B.length + i = (P++(C.take i++x :: A2)++B++A.take i).length:=by simp [la2]; omega
   rw [show P++(C.take i++x :: A2)++B++(A.take i++y :: C2)++S = (P++(C.take i++x :: A2)++B++A.take i)++(y :: (C2++S)) by simp]
   rw [e,List.getElem?_append_right (Nat.le_refl _)]
   simp
  have s1 : List.set (P++(C.take i++x :: A2)++B++(A.take i++y :: C2)++S) (P.length + i) y = P++(C.take i++y :: A2)++B++(A.take i++y :: C2)++S:=by
   rw [show P++(C.take i++x :: A2)++B++(A.take i++y :: C2)++S = (P++C.take i)++(x :: (A2++B++(A.take i++y :: C2)++S)) by simp]
   rw [List.set_append_right _ _ (by simp; omega)]
   have : P.length + i - (P++C.take i).length = 0:=by simp; omega
   rw [this,List.set_cons_zero]
   simp
  have g3 : idx (P++(C.take i++y :: A2)++B++(A.take i++y :: C2)++S) ((P.length + n + B.length + i : Nat) : Int) = some y:=by
   refine idx_q ?_
   have e : P.length + n + B.length + i = (P++(C.take i++y :: A2)++B++A.take i).length:=by simp [la2]; omega
   rw [show P++(C.take i++y :: A2)++B++(A.take i++y :: C2)++S = (P++(C.take i++y :: A2)++B++A.take i)++(y :: (C2++S)) by simp]
   rw [e,List.getElem?_append_right (Nat.le_refl _)]
   simp
  have s2 : List.set (P++(C.take i++y :: A2)++B++(A.take i++y :: C2)++S) (P.length + n + B.length + i) x = P++(C.take i++y :: A2)++B++(A.take i++x :: C2)++S:=by
   have e : P.length + n + B.length + i = (P++(C.take i++y :: A2)++B++A.take i).length:=by simp [la2]; omega
   rw [show P++(C.take i++y :: A2)++B++(A.take i++y :: C2)++S = (P++(C.take i++y :: A2)++B++A.take i)++(y :: (C2++S)) by simp]
   rw [e,List.set_append_right _ _ (Nat.le_refl _),Nat.sub_self,List.set_cons_zero]
   simp
  rw [g2,g1]
  simp only [Option.bind_some,Int.toNat_natCast]
  rw [s1,g3]
  simp only [Option.bind_some]
  rw [s2]
  have w3 : IntKind.wrap .i64 ((i : Int) + 1) = ((i + 1 : Nat) : Int):=by rw [wrap_i64 (by omega) (by omega)]; omega
  rw [w3]
  simp
theorem rot_spec (P U V S : List Rk) (hU : 0 < U.length) (hV : 0 < V.length) (hl : (P++U++V++S).length < 2305843009213693952) : rotM ((P.length : Nat) : Int) (((P++U).length : Nat) : Int) (((P++U++V).length : Nat) : Int) (P++U++V++S) = some (P++V++U++S):=by
 have hl' := hl
 simp only [List.length_append] at hl'
 unfold rotM
 have w1 : IntKind.wrap .i64 ((((P++U).length : Nat) : Int) - ((P.length : Nat) : Int)) = (U.length : Int):=by
  simp only [List.length_append]; rw [wrap_i64 (by omega) (by omega)]; omega
 have w2 : IntKind.wrap .i64 ((((P++U++V).length : Nat) : Int) - (((P++U).length : Nat) : Int)) = (V.length : Int):=by
  simp only [List.length_append]; rw [wrap_i64 (by omega) (by omega)]; omega
 rw [w1,w2]
 generalize hm : (P++U).length = m
 have hm' : P.length + U.length = m:=by rw [← hm,List.length_append]
 have:=whileM_ind (S:=List Rk × Int × Int) (E:=List Rk × Int) (step:=fun s=>rotM_L2 (m : Int) s.1 s.2.1 s.2.2) (s0:=(P++U++V++S,(U.length : Int),(V.length : Int)))
  (fun s=>∃ P' U' V' S' : List Rk,s.1 = P'++U'++V'++S'∧s.2.1 = (U'.length : Int)∧s.2.2 = (V'.length : Int)∧0 < U'.length∧0 < V'.length∧P'.length + U'.length = m∧P'++V'++U'++S' = P++V++U++S)
  (fun s=>(s.2.1 + s.2.2).toNat) (fun e=>∃ P' U' V' S' : List Rk,e.1 = P'++U'++V'++S'∧e.2 = (U'.length : Int)∧U'.length = V'.length∧P'.length + U'.length = m∧P'++V'++U'++S' = P++V++U++S)
  ⟨P,U,V,S,rfl,rfl,rfl,hU,hV,hm',rfl⟩ (by dsimp only; omega) ?_
 ·obtain ⟨e,h1,P',U',V',S',e1,e2,e3,e4,e5⟩ := this
  rw [h1,Option.bind_some,rotM_K1,e1,e2]
  have hlen:=congrArg List.length e5
  simp only [List.length_append] at hlen
  have w3 : IntKind.wrap .i64 ((m : Int) - (U'.length : Int)) = ((P'.length : Nat) : Int):=by rw [wrap_i64 (by omega) (by omega)]; omega
  rw [w3]
  have hs:=swr_spec P' U' [] V' S' U'.length rfl e3.symm (by simp only [List.length_append,List.length_nil]; omega)
  simp only [List.append_nil] at hs
  have em : (((P'++U').length : Nat) : Int) = (m : Int):=by rw [List.length_append,e4]
  rw [em] at hs
  rw [hs,e5]
  rfl
 ·rintro ⟨l1,i,j⟩ ⟨P',U',V',S',e1,e2,e3,e4,e5,e6,e7⟩
  dsimp only at e1 e2 e3 ⊢
  subst e1 e2 e3
  unfold rotM_L2
  have hlen:=congrArg List.length e7
  simp only [List.length_append] at hlen
  have w3 : IntKind.wrap .i64 ((m : Int) - (U'.length : Int)) = ((P'.length : Nat) : Int):=by rw [wrap_i64 (by omega) (by omega)]; omega
  have em : (((P'++U').length : Nat) : Int) = (m : Int):=by rw [List.length_append,e6]
  rw [w3]
  by_cases hc : U'.length = V'.length
  ·refine .inr ⟨(P'++U'++V'++S',(U'.length : Int)),by simp [hc],P',U',V',S',rfl,rfl,hc,e6,e7⟩
  ·have hne : (((U'.length : Int)) != (V'.length : Int)) = true:=by simp; omega
   rw [if_pos hne]
   by_cases hlt : V'.length < U'.length
   ·obtain ⟨U1,U2,rfl,hu⟩ : ∃ U1 U2 : List Rk,U' = U1++U2∧U1.length = V'.length := ⟨U'.take V'.length,U'.drop V'.length,(List.take_append_drop _ _).symm,by simp; omega⟩
    have hs:=swr_spec P' U1 U2 V' S' V'.length hu rfl (by simp only [List.length_append] at hlen ⊢; omega)
    simp only [List.append_assoc] at hs em ⊢
    rw [em] at hs
    have hd : decide ((V'.length : Int) < ((U1++U2).length : Int)) = true:=by simp only [decide_eq_true_eq]; omega
    refine .inl ⟨(P'++(V'++(U2++(U1++S'))),(U2.length : Int),(V'.length : Int)),?_,⟨P'++V',U2,U1,S',by simp,rfl,by simp [hu],?_,by omega,?_,?_⟩,?_⟩
    ·rw [hd,if_pos rfl,hs,Option.bind_some]
     simp only [List.length_append] at hlen ⊢
     rw [wrap_i64 (by omega) (by omega)]
     congr 4
     omega
    ·simp only [List.length_append] at hlt; omega
    ·simp only [List.length_append] at e6 ⊢; omega
    ·simpa using e7
    ·dsimp only; simp only [List.length_append]; omega
   ·obtain ⟨V1,V2,rfl,hv⟩ : ∃ V1 V2 : List Rk,V' = V1++V2∧V2.length = U'.length := ⟨V'.take (V'.length - U'.length),V'.drop (V'.length - U'.length),(List.take_append_drop _ _).symm,by simp; omega⟩
    have hs:=swr_spec P' U' V1 V2 S' U'.length rfl hv (by simp only [List.length_append] at hlen ⊢; omega)
    have hd : decide (((V1++V2).length : Int) < (U'.length : Int)) = false:=by simp only [decide_eq_false_iff_not]; omega
    have hw : IntKind.wrap .i64 (IntKind.wrap .i64 ((m : Int) + ((V1++V2).length : Int)) - (U'.length : Int)) = (((P'++U'++V1).length : Nat) : Int):=by
     simp only [List.length_append] at hlen ⊢
     rw [wrap_i64 (n:=(m : Int) + ((V1.length + V2.length : Nat) : Int)) (by omega) (by omega),wrap_i64 (by omega) (by omega)]; omega
    rw [hd,hw]
    simp only [Bool.false_eq_true,if_false]
    refine .inl ⟨(P'++V2++V1++U'++S',(U'.length : Int),(V1.length : Int)),?_,⟨P',V2,V1,U'++S',by simp,by rw [hv],rfl,by omega,?_,by omega,?_⟩,?_⟩
    ·rw [show P'++U'++(V1++V2)++S' = P'++U'++V1++V2++S' by simp,hs,Option.bind_some]
     simp only [List.length_append] at hlen ⊢
     rw [wrap_i64 (by omega) (by omega)]
     congr 4
     omega
    ·simp only [List.length_append] at hlt hc; omega
    ·simpa using e7
    ·dsimp only; simp only [List.length_append]; omega
theorem up_spec (l : List Rk) (a e : Nat) (hae : a < e) (he : e≤l.length) (hl : l.length < 2305843009213693952) : ∃ l',whileM (E:=List Rk) (fun s=>symM_L14 (e : Int) s.1 s.2) (l,(a : Int)) = some l'∧Blq l l' a e∧(∀ p,a≤p→p + 1 < e→l'[p]? = l[p + 1]?)∧l'[e - 1]? = l[a]? := by
 refine whileM_ind (S:=List Rk × Int) (E:=List Rk) (fun s=>∃ k : Nat,s.2 = (k : Int)∧a≤k∧k≤e - 1∧Blq l s.1 a e∧(∀ p,a≤p→p < k→s.1[p]? = l[p + 1]?)∧s.1[k]? = l[a]?∧(∀ p,k < p→s.1[p]? = l[p]?)) (fun s=>((e : Int) - s.2).toNat) (fun l'=>Blq l l' a e∧(∀ p,a≤p→p + 1 < e→l'[p]? = l[p + 1]?)∧l'[e - 1]? = l[a]?) ⟨a,rfl,Nat.le_refl _,by omega,Blq.refl _ _ _,fun p h1 h2=>by omega,rfl,fun p _=>rfl⟩ (by dsimp only; omega) ?_
 rintro ⟨l1,kk⟩ ⟨k,hk,k1,k2,hB,h1,h2,h3⟩
 dsimp only at hk hB h1 h2 h3 ⊢
 subst hk
 unfold symM_L14
 have hlen:=hB.len
 have w1 : IntKind.wrap .i64 ((e : Int) - 1) = ((e - 1 : Nat) : Int):=by rw [wrap_i64 (by omega) (by omega)]; omega
 have w2 : IntKind.wrap .i64 ((k : Int) + 1) = ((k + 1 : Nat) : Int):=by rw [wrap_i64 (by omega) (by omega)]; omega
 rw [w1,w2]
 by_cases hc : k < e - 1
 ·have hd : decide ((k : Int) < ((e - 1 : Nat) : Int)) = true:=by simp only [decide_eq_true_eq]; omega
  obtain ⟨x,hx⟩ := get_some (l:=l1) (i:=k) (by omega)
  obtain ⟨y,hy⟩ := get_some (l:=l1) (i:=k + 1) (by omega)
  have g3 : idx (l1.set k y) ((k + 1 : Nat) : Int) = some y:=idx_q (by rw [List.getElem?_set,if_neg (by omega),hy])
  refine .inl ⟨((l1.set k y).set (k + 1) x,((k + 1 : Nat) : Int)),?_,⟨k + 1,rfl,by omega,by omega,hB.trans (swp_blk hx hy (by omega) (by omega) (by omega) (by omega)),fun p p1 p2=>?_,?_,fun p p1=>?_⟩,by dsimp only; omega⟩
  ·rw [hd,if_pos rfl,idx_q hx,idx_q hy]
   simp only [Option.bind_some,Int.toNat_natCast,g3]
  ·dsimp only
   rw [swp_get hx hy,if_neg (by omega)]
   by_cases e1 : p = k
   ·subst e1; rw [if_pos rfl,h3 _ (by omega)]
   ·rw [if_neg e1,h1 p p1 (by omega)]
  ·dsimp only
   rw [swp_get hx hy,if_pos rfl,h2]
  ·dsimp only
   rw [swp_get hx hy,if_neg (by omega),if_neg (by omega),h3 _ (by omega)]
 ·have hd : decide ((k : Int) < ((e - 1 : Nat) : Int)) = false:=by simp only [decide_eq_false_iff_not]; omega
  have : k = e - 1:=by omega
  subst this
  exact .inr ⟨l1,by rw [hd]; rfl,hB,fun p p1 p2=>h1 p p1 (by omega),h2⟩
theorem down_spec (l : List Rk) (e m : Nat) (hem : e≤m) (hm : m < l.length) (hl : l.length < 2305843009213693952) : ∃ l',whileM (E:=List Rk) (fun s=>symM_L10 (e : Int) s.1 s.2) (l,(m : Int)) = some l'∧Blq l l' e (m + 1)∧(∀ p,e < p→p≤m→l'[p]? = l[p - 1]?)∧l'[e]? = l[m]? := by
 refine whileM_ind (S:=List Rk × Int) (E:=List Rk) (fun s=>∃ k : Nat,s.2 = (k : Int)∧e≤k∧k≤m∧Blq l s.1 e (m + 1)∧(∀ p,k < p→p≤m→s.1[p]? = l[p - 1]?)∧s.1[k]? = l[m]?∧(∀ p,p < k→s.1[p]? = l[p]?)) (fun s=>s.2.toNat) (fun l'=>Blq l l' e (m + 1)∧(∀ p,e < p→p≤m→l'[p]? = l[p - 1]?)∧l'[e]? = l[m]?) ⟨m,rfl,hem,Nat.le_refl _,Blq.refl _ _ _,fun p h1 h2=>by omega,rfl,fun p _=>rfl⟩ (by dsimp only; omega) ?_
 rintro ⟨l1,kk⟩ ⟨k,hk,k1,k2,hB,h1,h2,h3⟩
 dsimp only at hk hB h1 h2 h3 ⊢
 subst hk
 unfold symM_L10
 have hlen:=hB.len
 by_cases hc : e < k
 ·have w2 : IntKind.wrap .i64 ((k : Int) - 1) = ((k - 1 : Nat) : Int):=by rw [wrap_i64 (by omega) (by omega)]; omega
  have hd : decide ((e : Int) < (k : Int)) = true:=by simp only [decide_eq_true_eq]; omega
  rw [w2]
  obtain ⟨x,hx⟩ := get_some (l:=l1) (i:=k) (by omega)
  obtain ⟨y,hy⟩ := get_some (l:=l1) (i:=k - 1) (by omega)
  have g3 : idx (l1.set k y) ((k - 1 : Nat) : Int) = some y:=idx_q (by rw [List.getElem?_set,if_neg (by omega),hy])
  refine .inl ⟨((l1.set k y).set (k - 1) x,((k - 1 : Nat) : Int)),?_,⟨k - 1,rfl,by omega,by omega,hB.trans (swp_blk hx hy (by omega) (by omega) (by omega) (by omega)),fun p p1 p2=>?_,?_,fun p p1=>?_⟩,by dsimp only; omega⟩
  ·rw [hd,if_pos rfl,idx_q hx,idx_q hy]
   simp only [Option.bind_some,Int.toNat_natCast,g3]
  ·dsimp only
   rw [swp_get hx hy,if_neg (by omega)]
   by_cases e1 : p = k
   ·subst e1; rw [if_pos rfl,h3 _ (by omega)]
   ·rw [if_neg e1,h1 p (by omega) p2]
  ·dsimp only
   rw [swp_get hx hy,if_pos rfl,h2]
  ·dsimp only
   rw [swp_get hx hy,if_neg (by omega),if_neg (by omega),h3 _ (by omega)]
 ·have hd : decide ((e : Int) < (k : Int)) = false:=by simp only [decide_eq_false_iff_not]; omega
  have : k = e:=by omega
  subst this
  exact .inr ⟨l1,by rw [hd]; rfl,hB,fun p p1 p2=>h1 p p1 p2,h2⟩
theorem sm_one (l : List Rk) (a b : Nat) (hb : a + 1 < b) (hbl : b≤l.length) (hl : l.length < 2305843009213693952) (h2 : Srt l (a + 1) b) : ∃ l',((whileM (E:=Int) (fun s=>symM_L15 (a : Int) l s.1 s.2) (((a + 1 : Nat) : Int),(b : Int))).bind fun e=>symM_K12 (a : Int) l e) = some l'∧Blq l l' a b∧Srt l' a b:=by
 obtain ⟨x,hx⟩ := get_some (l:=l) (i:=a) (by omega)
 have ex:=sqAt_some hx
 obtain ⟨e,he,e1,e2,e3,e4⟩ := bsearch (step:=fun s=>symM_L15 (a : Int) l s.1 s.2) (fun h=>sqAt l h < x.gSeq) (a + 1) b (by omega) (by omega) (fun i j i1 ij j1=>by
  unfold symM_L15
  have hd : decide ((i : Int) < (j : Int)) = true:=by simp only [decide_eq_true_eq]; omega
  obtain ⟨y,hy⟩ := get_some (l:=l) (i:=(i + j) / 2) (by omega)
  obtain ⟨v,v1,v2⟩ := bySeq_some y x
  have w1 : IntKind.wrap .i64 ((((i + j) / 2 : Nat) : Int) + 1) = (((i + j) / 2 : Nat) : Int) + 1:=wrap_i64 (by omega) (by omega)
  dsimp only
  rw [hd,if_pos rfl,half_eq (by omega),idx_q hy,idx_q hx]
  simp only [Option.bind_some,v1,v2,w1,sqAt_some hy]
  by_cases hxy : y.gSeq < x.gSeq
  ·exact .inl ⟨hxy,by simp [hxy]⟩
  ·exact .inr ⟨hxy,by simp [hxy]⟩) (fun i _ _=>by
  unfold symM_L15
  simp)
 rw [he,Option.bind_some]
 unfold symM_K12
 obtain ⟨l',hw,hB,hs1,hs2⟩ := up_spec l a e (by omega) (by omega) hl
 rw [hw]
 refine ⟨l',rfl,hB.mono (Nat.le_refl _) e2,fun p q h1 h3 h4=>?_⟩
 have ke : sqAt l' (e - 1) = x.gSeq:=by rw [sqAt_congr hs2,ex]
 have kin : ∀ p,a≤p→p + 1 < e→sqAt l' p = sqAt l (p + 1):=fun p p1 p2=>sqAt_congr (hs1 p p1 p2)
 have kout : ∀ p,e≤p→sqAt l' p = sqAt l p:=fun p p1=>sqAt_congr (hB.out p (.inr p1))
 by_cases q1 : q + 1 < e
 ·rw [kin p h1 (by omega),kin q (by omega) q1]
  exact h2 _ _ (by omega) (by omega) (by omega)
 ·by_cases q2 : q = e - 1
  ·subst q2
   rw [ke,kin p h1 (by omega)]
   have:=e3 (by omega)
   have:=h2.le (p:=p + 1) (q:=e - 1) (by omega) (by omega) (by omega)
   omega
  ·rw [kout q (by omega)]
   have hq:=e4 (by omega)
   have hq2:=h2.le (p:=e) (q:=q) (by omega) (by omega) h4
   by_cases p1 : p + 1 < e
   ·rw [kin p h1 p1]
    exact h2 _ _ (by omega) (by omega) (by omega)
   ·by_cases p2 : p = e - 1
    ·subst p2
     rw [ke]; omega
    ·rw [kout p (by omega)]
     exact h2 _ _ (by omega) (by omega) (by omega)
theorem sm_last (l : List Rk) (a m : Nat) (ham : a < m) (hbl : m < l.length) (hl : l.length < 2305843009213693952) (h2 : Srt l a m) : ∃ l',((whileM (E:=Int) (fun s=>symM_L11 (m : Int) l s.1 s.2) ((a : Int),(m : Int))).bind fun e=>symM_K8 (m : Int) l e) = some l'∧Blq l l' a (m + 1)∧Srt l' a (m + 1):=by
 obtain ⟨x,hx⟩ := get_some (l:=l) (i:=m) (by omega)
 have ex:=sqAt_some hx
 obtain ⟨e,he,e1,e2,e3,e4⟩ := bsearch (step:=fun s=>symM_L11 (m : Int) l s.1 s.2) (fun h=>¬ x.gSeq < sqAt l h) a m (by omega) (by omega) (fun i j i1 ij j1=>by
  unfold symM_L11
  have hd : decide ((i : Int) < (j : Int)) = true:=by simp only [decide_eq_true_eq]; omega
  obtain ⟨y,hy⟩ := get_some (l:=l) (i:=(i + j) / 2) (by omega)
  obtain ⟨v,v1,v2⟩ := bySeq_some x y
  have w1 : IntKind.wrap .i64 ((((i + j) / 2 : Nat) : Int) + 1) = (((i + j) / 2 : Nat) : Int) + 1:=wrap_i64 (by omega) (by omega)
  dsimp only
  rw [hd,if_pos rfl,half_eq (by omega),idx_q hy,idx_q hx]
  simp only [Option.bind_some,v1,v2,w1,sqAt_some hy]
  by_cases hxy : x.gSeq < y.gSeq
  ·exact .inr ⟨fun h=>h hxy,by simp [hxy]⟩
  ·exact .inl ⟨hxy,by simp [hxy]⟩) (fun i _ _=>by
  unfold symM_L11
  simp)
 rw [he,Option.bind_some]
 unfold symM_K8
 obtain ⟨l',hw,hB,hs1,hs2⟩ := down_spec l e m (by omega) (by omega) hl
 rw [hw]
 refine ⟨l',rfl,hB.mono e1 (Nat.le_refl _),fun p q h1 h3 h4=>?_⟩
 have ke : sqAt l' e = x.gSeq:=by rw [sqAt_congr hs2,ex]
 have kin : ∀ p,e < p→p≤m→sqAt l' p = sqAt l (p - 1):=fun p p1 p2=>sqAt_congr (hs1 p p1 p2)
 have kout : ∀ p,p < e→sqAt l' p = sqAt l p:=fun p p1=>sqAt_congr (hB.out p (.inl p1))
 by_cases p1 : p < e
 ·rw [kout p p1]
  have hp:=e3 (by omega)
  have hp2:=h2.le (p:=p) (q:=e - 1) h1 (by omega) (by omega)
  by_cases q1 : q < e
  ·rw [kout q q1]; exact h2 _ _ h1 h3 (by omega)
  ·by_cases q2 : q = e
   ·rw [q2,ke]; omega
   ·rw [kin q (by omega) (by omega)]
    exact h2.le h1 (by omega) (by omega)
 ·by_cases p2 : p = e
  ·subst p2
   rw [ke,kin q h3 (by omega)]
   have hq:=e4 (by omega)
   have:=h2.le (p:=p) (q:=q - 1) (by omega) (by omega) (by omega)
   omega
  ·rw [kin p (by omega) (by omega),kin q (by omega) (by omega)]
   exact h2 _ _ (by omega) (by omega) (by omega)
theorem three (l : List Rk) (a b c : Nat) (h1 : a≤b) (h2 : b≤c) (h3 : c≤l.length) : ∃ P U V S : List Rk,l = P++U++V++S∧P.length = a∧(P++U).length = b∧(P++U++V).length = c:=by
 refine ⟨l.take a,(l.take b).drop a,(l.take c).drop b,l.drop c,?_,by simp; omega,by simp; omega,by simp; omega⟩
 have e1 : l.take a++(l.take b).drop a = l.take b:=by
  conv=>rhs; rw [← List.take_append_drop a (l.take b)]
  rw [List.take_take,Nat.min_eq_left h1]
 have e2 : l.take b++(l.take c).drop b = l.take c:=by
  conv=>rhs; rw [← List.take_append_drop b (l.take c)]
  rw [List.take_take,Nat.min_eq_left h2]
 rw [e1,e2,List.take_append_drop]
theorem rot_at (l : List Rk) (s m e : Nat) (h1 : s < m) (h2 : m < e) (h3 : e≤l.length) (hl : l.length < 2305843009213693952) : ∃ l',rotM (s : Int) (m : Int) (e : Int) l = some l'∧Blq l l' s e∧(∀ p,s≤p→p < s + (e - m)→l'[p]? = l[m + (p - s)]?)∧(∀ p,s + (e - m)≤p→p < e→l'[p]? = l[s + (p - (s + (e - m)))]?):=by
 obtain ⟨P,U,V,S,rfl,l1,l2,l3⟩ := three l s m e (by omega) (by omega) h3
 have k2:=l2
 have k3:=l3
 simp only [List.length_append] at k2 k3
 have hr:=rot_spec P U V S (by omega) (by omega) hl
 rw [l1,l2,l3] at hr
 have ev : e - m = V.length:=by omega
 have eu : m - s = U.length:=by omega
 have i1 : ∀ p,s≤p→p < s + (e - m)→(P++V++U++S)[p]? = (P++U++V++S)[m + (p - s)]? := by
  intro p p1 p2
  rw [List.append_assoc,List.append_assoc,List.getElem?_append_right (by omega),List.getElem?_append_left (by omega)]
  rw [List.append_assoc (P++U),List.getElem?_append_right (by omega),List.getElem?_append_left (by omega)]
  congr 1; omega
 have i2 : ∀ p,s + (e - m)≤p→p < e→(P++V++U++S)[p]? = (P++U++V++S)[s + (p - (s + (e - m)))]? := by
  intro p p1 p2
  rw [List.append_assoc (P++V),List.getElem?_append_right (by simp only [List.length_append]; omega),List.getElem?_append_left (by simp only [List.length_append]; omega)]
  rw [List.append_assoc,List.append_assoc,List.getElem?_append_right (by omega),List.getElem?_append_left (by omega)]
  simp only [List.length_append]
  congr 1; omega
 refine ⟨_,hr,⟨by simp only [List.length_append]; omega,fun p hp=>?_,fun p p1 p2=>?_,?_⟩,i1,i2⟩
 ·rcases hp with hp | hp
  ·rw [List.append_assoc,List.append_assoc,List.getElem?_append_left (by omega),List.append_assoc P,List.append_assoc P,List.getElem?_append_left (by omega)]
  ·rw [List.getElem?_append_right (by simp only [List.length_append]; omega),List.getElem?_append_right (by simp only [List.length_append]; omega)]
   simp only [List.length_append]
   congr 1; omega
 ·by_cases hp : p < s + (e - m)
  ·exact ⟨m + (p - s),by omega,by omega,i1 p p1 hp⟩
  ·exact ⟨s + (p - (s + (e - m))),by omega,by omega,i2 p (by omega) p2⟩
 ·refine List.Perm.append_right S ?_
  rw [List.append_assoc,List.append_assoc]
  exact List.Perm.append_left P List.perm_append_comm
theorem sm_spec : ∀ (k fu : Nat) (l : List Rk) (a m b : Nat),k < fu→a < m→m < b→b≤l.length→l.length < 2305843009213693952→b - a≤2 ^ k→Srt l a m→Srt l m b→∃ l',symM fu (a : Int) (m : Int) (b : Int) l = some l'∧Blq l l' a b∧Srt l' a b:=by
 intro k
 induction k with
 | zero=>intro fu l a m b _ h1 h2 _ _ h3; omega
 | succ k ih=>
  intro fu l a m b hfu h1 h2 hb hl hk hs1 hs2
  obtain ⟨fu,rfl⟩ : ∃ f,fu = f + 1 := ⟨fu - 1,by omega⟩
  unfold symM symM_B
  have wa : IntKind.wrap .i64 ((m : Int) - (a : Int)) = ((m - a : Nat) : Int):=by rw [wrap_i64 (by omega) (by omega)]; omega
  rw [wa]
  by_cases c1 : m = a + 1
  ·subst c1
   have : (((a + 1 - a : Nat) : Int) == 1) = true:=by rw [Nat.add_sub_cancel_left]; rfl
   rw [if_pos this]
   exact sm_one l a b h2 hb hl hs2
  ·have : ¬ (((m - a : Nat) : Int) == 1) = true:=by simp; omega
   rw [if_neg this]
   unfold symM_K1
   have wb : IntKind.wrap .i64 ((b : Int) - (m : Int)) = ((b - m : Nat) : Int):=by rw [wrap_i64 (by omega) (by omega)]; omega
   rw [wb]
   by_cases c2 : b = m + 1
   ·subst c2
    have : (((m + 1 - m : Nat) : Int) == 1) = true:=by rw [Nat.add_sub_cancel_left]; rfl
    rw [if_pos this]
    exact sm_last l a m h1 (by omega) hl hs1
   ·have : ¬ (((b - m : Nat) : Int) == 1) = true:=by simp; omega
    rw [if_neg this]
    unfold symM_K2
    rw [half_eq (by omega)]
    generalize hmid : (a + b) / 2 = mid
    have hmid1 : 2 * mid≤a + b:=by omega
    have hmid2 : a + b≤2 * mid + 1:=by omega
    have h2k : 2 ^ (k + 1) = 2 * 2 ^ k:=by rw [Nat.pow_succ]; omega
    have wn : IntKind.wrap .i64 ((mid : Int) + (m : Int)) = ((mid + m : Nat) : Int):=by rw [wrap_i64 (by omega) (by omega)]; omega
    -- the search
    have srch : ∀ lo hi : Nat,lo≤hi→hi≤mid→hi≤m→a≤lo→mid + m≤b + lo→∃ s : Nat,whileM (E:=Int) (fun s=>symM_L7 (a : Int) (m : Int) (b : Int) l s.1 s.2) ((lo : Int),(hi : Int)) = some (s : Int)∧lo≤s∧s≤hi∧(lo < s→sqAt l (s - 1)≤sqAt l (mid + m - s))∧(s < hi→sqAt l (mid + m - 1 - s) < sqAt l s):=by
     intro lo hi k1 k2 k3 k4 k5
     obtain ⟨e,he,e1,e2,e3,e4⟩ := bsearch (step:=fun s=>symM_L7 (a : Int) (m : Int) (b : Int) l s.1 s.2) (fun h=>¬ sqAt l (mid + m - 1 - h) < sqAt l h) lo hi k1 (by omega) (fun i j i1 ij j1=>by
      unfold symM_L7
      have hd : decide ((i : Int) < (j : Int)) = true:=by simp only [decide_eq_true_eq]; omega
      dsimp only
      rw [hd,if_pos rfl,half_eq (x:=i) (y:=j) (by omega),half_eq (x:=a) (y:=b) (by omega),hmid,wn]
      have w1 : IntKind.wrap .i64 (((mid + m : Nat) : Int) - 1) = ((mid + m - 1 : Nat) : Int):=by rw [wrap_i64 (by omega) (by omega)]; omega
      have w2 : IntKind.wrap .i64 (((mid + m - 1 : Nat) : Int) - (((i + j) / 2 : Nat) : Int)) = ((mid + m - 1 - (i + j) / 2 : Nat) : Int):=by rw [wrap_i64 (by omega) (by omega)]; omega
      have w3 : IntKind.wrap .i64 ((((i + j) / 2 : Nat) : Int) + 1) = (((i + j) / 2 : Nat) : Int) + 1:=wrap_i64 (by omega) (by omega)
      rw [w1,w2,w3]
      obtain ⟨x,hx⟩ := get_some (l:=l) (i:=(i + j) / 2) (by omega)
      obtain ⟨y,hy⟩ := get_some (l:=l) (i:=mid + m - 1 - (i + j) / 2) (by omega)
      obtain ⟨v,v1,v2⟩ := bySeq_some y x
      rw [idx_q hy,idx_q hx,sqAt_some hx,sqAt_some hy]
      simp only [Option.bind_some,v1,v2]
      by_cases hxy : y.gSeq < x.gSeq
      ·exact .inr ⟨fun h=>h hxy,by simp [hxy]⟩
      ·exact .inl ⟨hxy,by simp [hxy]⟩) (fun i _ _=>by
      unfold symM_L7
      simp)
     refine ⟨e,he,e1,e2,fun h=>?_,fun h=>?_⟩
     ·have:=e3 h
      have e5 : mid + m - 1 - (e - 1) = mid + m - e:=by omega
      rw [e5] at this; omega
     ·have:=e4 h; omega
    -- behind the search
    have rest : ∀ s : Nat,a≤s→s≤m→s≤mid→mid + m≤b + s→(a < s→mid + m - s < b→sqAt l (s - 1)≤sqAt l (mid + m - s))→(s < m→s < mid→sqAt l (mid + m - 1 - s) < sqAt l s)→∃ l',symM_K4 (a : Int) (m : Int) (b : Int) l (symM fu) (s : Int) = some l'∧Blq l l' a b∧Srt l' a b:=by
     intro s s1 s2 s3 s4 s5 s6
     unfold symM_K4
     have we : IntKind.wrap .i64 (((mid + m : Nat) : Int) - (s : Int)) = ((mid + m - s : Nat) : Int):=by rw [wrap_i64 (by omega) (by omega)]; omega
     rw [half_eq (by omega),hmid,wn,we]
     generalize he : mid + m - s = e at s5
     have hse : s + (e - m) = mid:=by omega
     have hes : mid + m = e + s:=by omega
     have hem : m≤e:=by omega
     -- the list after the rotation
     have hrot : ∃ L,(if ((decide ((s : Int) < (m : Int))) && (decide ((m : Int) < (e : Int)))) = true then (rotM (s : Int) (m : Int) (e : Int) l).bind fun v=>symM_K5 (a : Int) (m : Int) (b : Int) (symM fu) (s : Int) v else symM_K5 (a : Int) (m : Int) (b : Int) (symM fu) (s : Int) l) = symM_K5 (a : Int) (m : Int) (b : Int) (symM fu) (s : Int) L∧Blq l L s e∧(∀ p,s≤p→p < mid→L[p]? = l[m + (p - s)]?)∧(∀ p,mid≤p→p < e→L[p]? = l[s + (p - mid)]?):=by
      by_cases cr : s < m∧m < e
      ·obtain ⟨L,r1,r2,r3,r4⟩ := rot_at l s m e cr.1 cr.2 (by omega) hl
       rw [hse] at r3 r4
       refine ⟨L,?_,r2,r3,r4⟩
       have hd : ((decide ((s : Int) < (m : Int))) && (decide ((m : Int) < (e : Int)))) = true:=by simp; omega
       rw [if_pos hd,r1]; rfl
      ·refine ⟨l,?_,Blq.refl _ _ _,fun p p1 p2=>?_,fun p p1 p2=>?_⟩
       ·have hd : ¬ ((decide ((s : Int) < (m : Int))) && (decide ((m : Int) < (e : Int)))) = true:=by simp; omega
        rw [if_neg hd]
       ·congr 1; omega
       ·congr 1; omega
     obtain ⟨L,hL,hB,hp1,hp2⟩ := hrot
     rw [hL]
     have hLlen:=hB.len
     have hlow : ∀ p,p < s→sqAt L p = sqAt l p:=fun p hp=>sqAt_congr (hB.out p (.inl hp))
     have hhigh : ∀ p,e≤p→sqAt L p = sqAt l p:=fun p hp=>sqAt_congr (hB.out p (.inr hp))
     have hm1 : ∀ p,s≤p→p < mid→sqAt L p = sqAt l (m + (p - s)):=fun p q1 q2=>sqAt_congr (hp1 p q1 q2)
     have hm2 : ∀ p,mid≤p→p < e→sqAt L p = sqAt l (s + (p - mid)):=fun p q1 q2=>sqAt_congr (hp2 p q1 q2)
     have hBab : Blq l L a b:=hB.mono s1 (by omega)
     -- all of the left half is at most all of the right half
     have hcross : ∀ p q,a≤p→p < mid→mid≤q→q < b→sqAt L p≤sqAt L q:=by
      intro p q p1 p2 q1 q2
      by_cases ps : p < s
      ·rw [hlow p ps]
       by_cases qe : q < e
       ·rw [hm2 q q1 qe]
        exact hs1.le p1 (by omega) (by omega)
       ·rw [hhigh q (by omega)]
        have x1:=s5 (by omega) (by omega)
        have x2:=hs1.le (p:=p) (q:=s - 1) p1 (by omega) (by omega)
        have x3:=hs2.le (p:=e) (q:=q) (by omega) (by omega) q2
        omega
      ·rw [hm1 p (by omega) p2]
       by_cases qe : q < e
       ·rw [hm2 q q1 qe]
        have x1:=s6 (by omega) (by omega)
        have e9 : mid + m - 1 - s = e - 1:=by omega
        rw [e9] at x1
        have x2:=hs2.le (p:=m + (p - s)) (q:=e - 1) (by omega) (by omega) (by omega)
        have x3:=hs1.le (p:=s) (q:=s + (q - mid)) (by omega) (by omega) (by omega)
        omega
       ·rw [hhigh q (by omega)]
        exact hs2.le (by omega) (by omega) q2
     -- the parts
     have pl1 : Srt L a s:=fun p q h1 h2 h3=>by rw [hlow p (by omega),hlow q h3]; exact hs1 p q h1 h2 (by omega)
     have pl2 : Srt L s mid:=fun p q h1 h2 h3=>by rw [hm1 p h1 (by omega),hm1 q (by omega) h3]; exact hs2 _ _ (by omega) (by omega) (by omega)
     have pr1 : Srt L mid e:=fun p q h1 h2 h3=>by rw [hm2 p h1 (by omega),hm2 q (by omega) h3]; exact hs1 _ _ (by omega) (by omega) (by omega)
     have pr2 : Srt L e b:=fun p q h1 h2 h3=>by rw [hhigh p h1,hhigh q (by omega)]; exact hs2 _ _ (by omega) (by omega) h3
     -- the left half
     have hleft : ∃ L1,symM_K5 (a : Int) (m : Int) (b : Int) (symM fu) (s : Int) L = symM_K6 (a : Int) (m : Int) (b : Int) (symM fu) (s : Int) L1∧Blq L L1 a mid∧Srt L1 a mid:=by
      unfold symM_K5
      rw [half_eq (by omega),hmid]
      by_cases c : a < s∧s < mid
      ·obtain ⟨L1,x1,x2,x3⟩ := ih fu L a s mid (by omega) c.1 c.2 (by omega) (by omega) (by omega) pl1 pl2
       have hd : ((decide ((a : Int) < (s : Int))) && (decide ((s : Int) < (mid : Int)))) = true:=by simp; omega
       exact ⟨L1,by rw [if_pos hd,x1]; rfl,x2,x3⟩
      ·have hd : ¬ ((decide ((a : Int) < (s : Int))) && (decide ((s : Int) < (mid : Int)))) = true:=by simp; omega
       refine ⟨L,by rw [if_neg hd],Blq.refl _ _ _,?_⟩
       by_cases c3 : a < s
       ·have : s = mid:=by omega
        subst this; exact pl1
       ·have : s = a:=by omega
        subst this; exact pl2
     obtain ⟨L1,hL1,hB1,hS1⟩ := hleft
     rw [hL1]
     have hL1len:=hB1.len
     have pr1' : Srt L1 mid e:=pr1.congr fun i i1 i2=>hB1.out i (.inr i1)
     have pr2' : Srt L1 e b:=pr2.congr fun i i1 i2=>hB1.out i (.inr (by omega))
     have hright : ∃ L2,symM_K6 (a : Int) (m : Int) (b : Int) (symM fu) (s : Int) L1 = some L2∧Blq L1 L2 mid b∧Srt L2 mid b:=by
      unfold symM_K6
      rw [half_eq (by omega),hmid,wn,we]
      by_cases c : mid < e∧e < b
      ·obtain ⟨L2,x1,x2,x3⟩ := ih fu L1 mid e b (by omega) c.1 c.2 (by omega) (by omega) (by omega) pr1' pr2'
       have hd : ((decide ((mid : Int) < (e : Int))) && (decide ((e : Int) < (b : Int)))) = true:=by simp; omega
       exact ⟨L2,by rw [he,if_pos hd,x1]; rfl,x2,x3⟩
      ·have hd : ¬ ((decide ((mid : Int) < (e : Int))) && (decide ((e : Int) < (b : Int)))) = true:=by simp; omega
       refine ⟨L1,by rw [he,if_neg hd],Blq.refl _ _ _,?_⟩
       by_cases c3 : mid < e
       ·have : e = b:=by omega
        subst this; exact pr1'
       ·have : e = mid:=by omega
        rw [this] at pr2'; exact pr2'
     obtain ⟨L2,hL2,hB2,hS2⟩ := hright
     refine ⟨L2,hL2,hBab.trans ((hB1.mono (Nat.le_refl _) (by omega)).trans (hB2.mono (by omega) (Nat.le_refl _))),fun p q h1 h2 h3=>?_⟩
     by_cases qm : q < mid
     ·rw [sqAt_congr (hB2.out p (.inl (by omega))),sqAt_congr (hB2.out q (.inl qm))]
      exact hS1 p q h1 h2 qm
     ·by_cases pm : p < mid
      ·rw [sqAt_congr (hB2.out p (.inl pm))]
       obtain ⟨p',y1,y2,y3⟩ := hB1.ins p h1 pm
       obtain ⟨q',z1,z2,z3⟩ := hB2.ins q (by omega) h3
       rw [sqAt_congr y3,sqAt_congr z3,sqAt_congr (hB1.out q' (.inr z1))]
       exact hcross p' q' y1 y2 z1 z2
      ·exact hS2 p q (by omega) h2 h3
    by_cases cm : mid < m
    ·have hd : decide ((mid : Int) < (m : Int)) = true:=by simp only [decide_eq_true_eq]; omega
     have wl : IntKind.wrap .i64 (((mid + m : Nat) : Int) - (b : Int)) = ((mid + m - b : Nat) : Int):=by rw [wrap_i64 (by omega) (by omega)]; omega
     rw [hd,if_pos rfl,wn,wl]
     unfold symM_K3
     obtain ⟨s,hw,r1,r2,r3,r4⟩ := srch (mid + m - b) mid (by omega) (Nat.le_refl _) (by omega) (by omega) (by omega)
     rw [hw,Option.bind_some]
     exact rest s (by omega) (by omega) r2 (by omega) (fun _ x=>r3 (by omega)) (fun _ x=>r4 x)
    ·have hd : decide ((mid : Int) < (m : Int)) = false:=by simp only [decide_eq_false_iff_not]; omega
     rw [hd]
     simp only [Bool.false_eq_true,if_false]
     unfold symM_K3
     obtain ⟨s,hw,r1,r2,r3,r4⟩ := srch a m (by omega) (by omega) (Nat.le_refl _) (Nat.le_refl _) (by omega)
     rw [hw,Option.bind_some]
     exact rest s r1 r2 (by omega) (by omega) (fun x _=>r3 x) (fun x _=>r4 x)
theorem stable_ins (l : List Rk) (n : Nat) (hn : n = l.length) (hl : l.length < 1152921504606846976) : ∃ (l1 : List Rk) (i : Nat),whileM (E:=List Rk × Int) (fun s=>stabM_L6 (n : Int) s.1 s.2.1 s.2.2) (l,0,20) = some (l1,((i * 20 : Nat) : Int))∧i * 20≤n∧n < i * 20 + 20∧Blq l l1 0 n∧∀ k,k < i→Srt l1 (k * 20) (k * 20 + 20):=by
 have:=whileM_ind (S:=List Rk × Int × Int) (E:=List Rk × Int) (step:=fun s=>stabM_L6 (n : Int) s.1 s.2.1 s.2.2) (s0:=(l,0,20)) (fun s=>∃ i : Nat,s.2.1 = ((i * 20 : Nat) : Int)∧s.2.2 = ((i * 20 + 20 : Nat) : Int)∧i * 20≤n∧Blq l s.1 0 n∧∀ k,k < i→Srt s.1 (k * 20) (k * 20 + 20)) (fun s=>((n : Int) + 20 - s.2.2).toNat) (fun e=>∃ i : Nat,e.2 = ((i * 20 : Nat) : Int)∧i * 20≤n∧n < i * 20 + 20∧Blq l e.1 0 n∧∀ k,k < i→Srt e.1 (k * 20) (k * 20 + 20)) ⟨0,rfl,rfl,by omega,Blq.refl _ _ _,fun k hk=>by omega⟩ (by dsimp only; omega) ?_
 ·obtain ⟨⟨l1,e⟩,h1,i,h2,h3⟩ := this
  dsimp only at h2 h3
  subst h2
  exact ⟨l1,i,h1,h3⟩
 ·rintro ⟨l1,a,b⟩ ⟨i,h1,h2,h3,h4,h5⟩
  dsimp only at h1 h2 h4 h5 ⊢
  subst h1 h2
  unfold stabM_L6
  have hlen:=h4.len
  by_cases hc : i * 20 + 20≤n
  ·have hd : decide (((i * 20 + 20 : Nat) : Int)≤(n : Int)) = true:=by simp only [decide_eq_true_eq]; omega
   obtain ⟨l2,k1,k2,k3⟩ := ins_spec l1 (i * 20) (i * 20 + 20) (by omega) (by omega) (by omega)
   have w : IntKind.wrap .i64 (((i * 20 + 20 : Nat) : Int) + 20) = (((i + 1) * 20 + 20 : Nat) : Int):=by rw [wrap_i64 (by omega) (by omega)]; omega
   refine .inl ⟨(l2,(((i + 1) * 20 : Nat) : Int),(((i + 1) * 20 + 20 : Nat) : Int)),?_,⟨i + 1,rfl,rfl,by omega,h4.trans (k2.mono (Nat.zero_le _) hc),fun k hk=>?_⟩,by dsimp only; omega⟩
   ·rw [hd,if_pos rfl,k1,Option.bind_some,w]
    have : i * 20 + 20 = (i + 1) * 20:=by omega
    rw [this]
   ·by_cases e : k = i
    ·subst e; exact k3
    ·exact (h5 k (by omega)).congr fun p p1 p2=>k2.out p (.inl (by omega))
  ·have hd : decide (((i * 20 + 20 : Nat) : Int)≤(n : Int)) = false:=by simp only [decide_eq_false_iff_not]; omega
   exact .inr ⟨(l1,((i * 20 : Nat) : Int)),by rw [hd]; rfl,i,rfl,h3,by omega,h4,h5⟩
def Blo (l : List Rk) (n bs : Nat) : Prop := ∀ k,Srt l (k * bs) (min (k * bs + bs) n)
theorem stable_pass (l : List Rk) (n bs : Nat) (hn : n = l.length) (hl : l.length < 1152921504606846976) (hbs : 0 < bs) (hbn : bs < n) (hB : Blo l n bs) : ∃ l',((whileM (E:=List Rk × Int) (fun s=>stabM_L5 (n : Int) (bs : Int) s.1 s.2.1 s.2.2) (l,0,IntKind.wrap .i64 (2 * (bs : Int)))).bind fun e=>stabM_K4 (n : Int) (bs : Int) e.1 e.2) = some (.next (l',((bs * 2 : Nat) : Int)))∧Blq l l' 0 n∧Blo l' n (bs * 2):=by
 have w0 : IntKind.wrap .i64 (2 * (bs : Int)) = ((bs * 2 : Nat) : Int):=by rw [wrap_i64 (by omega) (by omega)]; omega
 rw [w0]
 have w9 : IntKind.wrap .i64 ((bs : Int) * 2) = ((bs * 2 : Nat) : Int):=by rw [wrap_i64 (by omega) (by omega)]; omega
 have:=whileM_ind (S:=List Rk × Int × Int) (E:=List Rk × Int) (step:=fun s=>stabM_L5 (n : Int) (bs : Int) s.1 s.2.1 s.2.2) (s0:=(l,0,((bs * 2 : Nat) : Int))) (fun s=>∃ i : Nat,s.2.1 = ((i * (bs * 2) : Nat) : Int)∧s.2.2 = ((i * (bs * 2) + bs * 2 : Nat) : Int)∧i * (bs * 2)≤n∧Blq l s.1 0 n∧(∀ k,k < i→Srt s.1 (k * (bs * 2)) (min (k * (bs * 2) + bs * 2) n))∧∀ k,2 * i≤k→Srt s.1 (k * bs) (min (k * bs + bs) n)) (fun s=>((n : Int) + bs * 2 - s.2.2).toNat) (fun e=>∃ i : Nat,e.2 = ((i * (bs * 2) : Nat) : Int)∧i * (bs * 2)≤n∧n < i * (bs * 2) + bs * 2∧Blq l e.1 0 n∧(∀ k,k < i→Srt e.1 (k * (bs * 2)) (min (k * (bs * 2) + bs * 2) n))∧∀ k,2 * i≤k→Srt e.1 (k * bs) (min (k * bs + bs) n)) ⟨0,by simp,by simp,by omega,Blq.refl _ _ _,fun k hk=>by omega,fun k _=>hB k⟩ (by dsimp only; omega) ?_
 ·obtain ⟨⟨l1,e⟩,h1,i,h2,h3,h4,h5,h6,h7⟩ := this
  dsimp only at h2 h5 h6 h7
  subst h2
  rw [h1,Option.bind_some]
  unfold stabM_K4
  dsimp only
  have hlen:=h5.len
  generalize hA : i * (bs * 2) = A at h3 h4
  have e1 : (2 * i) * bs = A:=by rw [← hA,Nat.mul_comm 2 i,Nat.mul_assoc,Nat.mul_comm 2 bs]
  have e2 : (2 * i + 1) * bs = A + bs:=by rw [Nat.succ_mul,e1]
  have b1:=h7 (2 * i) (Nat.le_refl _)
  have b2:=h7 (2 * i + 1) (by omega)
  rw [e1] at b1
  rw [e2] at b2
  have w1 : IntKind.wrap .i64 ((A : Int) + (bs : Int)) = ((A + bs : Nat) : Int):=by rw [wrap_i64 (by omega) (by omega)]; omega
  rw [w1,w9]
  have fin : ∀ l2,Blq l1 l2 A n→Srt l2 A n→Blo l2 n (bs * 2):=by
   intro l2 c1 c2 k
   by_cases k1 : k < i
   ·have k2 : k * (bs * 2) + bs * 2≤A:=by
     have:=Nat.mul_le_mul_right (bs * 2) (show k + 1≤i by omega)
     rw [Nat.succ_mul,hA] at this; exact this
    exact (h6 k k1).congr fun p p1 p2=>c1.out p (.inl (by omega))
   ·by_cases k2 : k = i
    ·subst k2
     rw [hA]
     exact c2.sub (Nat.le_refl _) (by omega)
    ·have k3 : A + bs * 2≤k * (bs * 2):=by
      have:=Nat.mul_le_mul_right (bs * 2) (show i + 1≤k by omega)
      rw [Nat.succ_mul,hA] at this; exact this
     intro p q p1 p2 p3
     omega
  by_cases hc : A + bs < n
  ·have hd : decide (((A + bs : Nat) : Int) < (n : Int)) = true:=by simp only [decide_eq_true_eq]; omega
   have hp : n - A≤2 ^ 62:=by
    have : (2 : Nat) ^ 62 = 4611686018427387904:=by decide
    omega
   obtain ⟨l2,c1,c2,c3⟩ := sm_spec 62 64 l1 A (A + bs) n (by omega) (by omega) hc (by omega) (by omega) hp (b1.sub (Nat.le_refl _) (by omega)) (b2.sub (Nat.le_refl _) (by omega))
   refine ⟨l2,?_,h5.trans (c2.mono (Nat.zero_le _) (Nat.le_refl _)),fin l2 c2 c3⟩
   rw [hd,if_pos rfl,c1]; rfl
  ·have hd : decide (((A + bs : Nat) : Int) < (n : Int)) = false:=by simp only [decide_eq_false_iff_not]; omega
   refine ⟨l1,by rw [hd]; rfl,h5,fin l1 (Blq.refl _ _ _) (b1.sub (Nat.le_refl _) (by omega))⟩
 ·rintro ⟨l1,a,b⟩ ⟨i,h1,h2,h3,h4,h5,h6⟩
  dsimp only at h1 h2 h4 h5 h6 ⊢
  subst h1 h2
  unfold stabM_L5
  have hlen:=h4.len
  generalize hA : i * (bs * 2) = A at h3
  have e1 : (2 * i) * bs = A:=by rw [← hA,Nat.mul_comm 2 i,Nat.mul_assoc,Nat.mul_comm 2 bs]
  have e2 : (2 * i + 1) * bs = A + bs:=by rw [Nat.succ_mul,e1]
  have b1:=h6 (2 * i) (Nat.le_refl _)
  have b2:=h6 (2 * i + 1) (by omega)
  rw [e1] at b1
  rw [e2] at b2
  by_cases hc : A + bs * 2≤n
  ·have hd : decide (((A + bs * 2 : Nat) : Int)≤(n : Int)) = true:=by simp only [decide_eq_true_eq]; omega
   have hp : A + bs * 2 - A≤2 ^ 62:=by
    have : (2 : Nat) ^ 62 = 4611686018427387904:=by decide
    omega
   obtain ⟨l2,c1,c2,c3⟩ := sm_spec 62 64 l1 A (A + bs) (A + bs * 2) (by omega) (by omega) (by omega) (by omega) (by omega) hp (b1.sub (Nat.le_refl _) (by omega)) (b2.sub (Nat.le_refl _) (by omega))
   have w1 : IntKind.wrap .i64 ((A : Int) + (bs : Int)) = ((A + bs : Nat) : Int):=by rw [wrap_i64 (by omega) (by omega)]; omega
   have w2 : IntKind.wrap .i64 (((A + bs * 2 : Nat) : Int) + ((bs * 2 : Nat) : Int)) = ((A + bs * 2 + bs * 2 : Nat) : Int):=by rw [wrap_i64 (by omega) (by omega)]; omega
   have eA : (i + 1) * (bs * 2) = A + bs * 2:=by rw [Nat.succ_mul,hA]
   refine .inl ⟨(l2,((A + bs * 2 : Nat) : Int),((A + bs * 2 + bs * 2 : Nat) : Int)),?_,⟨i + 1,by rw [eA],by rw [eA],by omega,h4.trans (c2.mono (Nat.zero_le _) hc),fun k hk=>?_,fun k hk=>?_⟩,by dsimp only; omega⟩
   ·rw [hd,if_pos rfl,w1,c1,Option.bind_some,w0,w2]
   ·by_cases k1 : k = i
    ·subst k1; rw [hA]; exact c3.sub (Nat.le_refl _) (by omega)
    ·have k2 : k * (bs * 2) + bs * 2≤A:=by
      have:=Nat.mul_le_mul_right (bs * 2) (show k + 1≤i by omega)
      rw [Nat.succ_mul,hA] at this; exact this
     exact (h5 k (by omega)).congr fun p p1 p2=>c2.out p (.inl (by omega))
   ·have k3 : A + bs * 2≤k * bs:=by
     have:=Nat.mul_le_mul_right bs hk
     have e3 : 2 * (i + 1) * bs = A + bs * 2:=by rw [← eA,Nat.mul_comm 2 (i + 1),Nat.mul_assoc,Nat.mul_comm 2 bs]
     omega
    exact (h6 k (by omega)).congr fun p p1 p2=>c2.out p (.inr (by omega))
  ·have hd : decide (((A + bs * 2 : Nat) : Int)≤(n : Int)) = false:=by simp only [decide_eq_false_iff_not]; omega
   exact .inr ⟨(l1,((A : Nat) : Int)),by rw [hd]; rfl,i,by rw [hA],by omega,by omega,h4,h5,h6⟩
theorem stable_spec (l : List Rk) (hl : l.length < 1152921504606846976) : ∃ l',sortM l = some l'∧l'.Perm l∧Srt l' 0 l'.length:=by
 have hst : ∃ l',stabM (List.length l : Int) l = some l'∧Blq l l' 0 l.length∧Srt l' 0 l.length:=by
  unfold stabM
  generalize hn : l.length = n
  obtain ⟨l1,i,h1,h2,h3,h4,h5⟩ := stable_ins l n hn.symm hl
  rw [h1,Option.bind_some]
  unfold stabM_K1
  have hlen:=h4.len
  obtain ⟨l2,k1,k2,k3⟩ := ins_spec l1 (i * 20) n h2 (by omega) (by omega)
  dsimp only
  rw [k1,Option.bind_some]
  have hB : Blo l2 n 20:=by
   intro k
   by_cases e1 : k < i
   ·exact ((h5 k e1).sub (Nat.le_refl _) (by omega)).congr fun p p1 p2=>k2.out p (.inl (by omega))
   ·by_cases e2 : k = i
    ·subst e2; exact k3.sub (Nat.le_refl _) (by omega)
    ·intro p q p1 p2 p3; omega
  have hlen2:=k2.len
  have:=whileM_ind (S:=List Rk × Int) (E:=List Rk) (step:=fun s=>stabM_L3 (n : Int) s.1 s.2) (s0:=(l2,20)) (fun s=>∃ bs : Nat,s.2 = (bs : Int)∧20≤bs∧bs≤2 * n + 20∧Blq l2 s.1 0 n∧Blo s.1 n bs) (fun s=>((n : Int) * 2 + 20 - s.2).toNat) (fun l'=>Blq l2 l' 0 n∧Srt l' 0 n) ⟨20,rfl,Nat.le_refl _,by omega,Blq.refl _ _ _,hB⟩ (by dsimp only; omega) ?_
  ·obtain ⟨l3,c1,c2,c3⟩ := this
   rw [c1,Option.bind_some]
   exact ⟨l3,rfl,h4.trans ((k2.mono (Nat.zero_le _) (Nat.le_refl _)).trans c2),c3⟩
  ·rintro ⟨l3,b⟩ ⟨bs,c1,c2,c3,c4,c5⟩
   dsimp only at c1 c4 c5 ⊢
   subst c1
   unfold stabM_L3
   have hlen3:=c4.len
   by_cases hc : bs < n
   ·have hd : decide ((bs : Int) < (n : Int)) = true:=by simp only [decide_eq_true_eq]; omega
    obtain ⟨l4,d1,d2,d3⟩ := stable_pass l3 n bs (by omega) (by omega) (by omega) hc c5
    refine .inl ⟨(l4,((bs * 2 : Nat) : Int)),?_,⟨bs * 2,rfl,by omega,by omega,c4.trans d2,d3⟩,by dsimp only; omega⟩
    rw [hd,if_pos rfl]; exact d1
   ·have hd : decide ((bs : Int) < (n : Int)) = false:=by simp only [decide_eq_false_iff_not]; omega
    refine .inr ⟨l3,by rw [hd]; rfl,c4,?_⟩
    have:=c5 0
    rw [Nat.zero_mul,Nat.zero_add,Nat.min_eq_right (by omega)] at this
    exact this
 obtain ⟨l',h1,h2,h3⟩ := hst
 refine ⟨l',?_,h2.perm,by rw [h2.len]; exact h3⟩
 unfold sortM
 rw [h1]; rfl
theorem foldM_ind {S : Type} {mx n : Int} {body : Nat→S→Option S} {s0 : S} (I : Nat→S→Prop) (hx : n≤mx) (hn : 0≤n) (h0 : I 0 s0) (h : ∀ (k : Nat) s,(k : Int) < n→I k s→∃ s',body k s = some s'∧I (k + 1) s') : ∃ s,foldM' mx n body s0 = some s∧I n.toNat s:=by
 unfold foldM'
 rw [chk_pos hx]
 have : ∀ m k s,m + k = n.toNat→I k s→∃ s',foldGo body m k s = some s'∧I n.toNat s' := by
  intro m
  induction m with
  | zero=>intro k s hk hs; exact ⟨s,rfl,by rw [← hk,Nat.zero_add]; exact hs⟩
  | succ m ih=>
   intro k s hk hs
   obtain ⟨s',h1,h2⟩ := h k s (by omega) hs
   obtain ⟨t,k1,k2⟩ := ih (k + 1) s' (by omega) h2
   refine ⟨t,?_,k2⟩
   unfold foldGo
   rw [h1]; exact k1
 exact this n.toNat 0 s0 (by omega) h0
theorem idx_lt {α : Type} {xs : List α} {k : Nat} (h : k < xs.length) : idx xs (k : Int) = some xs[k]:=by simp [idx,h]
theorem idx_app {α : Type} (xs ys : List α) (y : α) : idx (xs++y :: ys) (xs.length : Int) = some y:=by simp [idx]
theorem set_app {α : Type} (xs ys : List α) (y z : α) : List.set (xs++y :: ys) xs.length z = xs++z :: ys:=by simp
def Can (l : List CSpan) : Prop:=l.Pairwise (fun s t=>s.gto < t.gfrom)∧∀ s∈l,s.gfrom < s.gto
def inS (l : List CSpan) (x : Int) : Prop := ∃ s∈l,s.gfrom≤x∧x < s.gto
theorem inS_nil (x : Int) : ¬ inS [] x:=by rintro ⟨s,hs,_⟩; cases hs
theorem inS_app {a b : List CSpan} {x : Int} : inS (a++b) x↔inS a x∨inS b x:=by
 constructor
 ·rintro ⟨s,hs,h⟩
  rcases List.mem_append.1 hs with h1 | h1
  ·exact .inl ⟨s,h1,h⟩
  ·exact .inr ⟨s,h1,h⟩
 ·rintro (⟨s,hs,h⟩ | ⟨s,hs,h⟩)
  ·exact ⟨s,List.mem_append_left _ hs,h⟩
  ·exact ⟨s,List.mem_append_right _ hs,h⟩
theorem inS_one {s : CSpan} {x : Int} : inS [s] x↔s.gfrom≤x∧x < s.gto:=by
 constructor
 ·rintro ⟨t,ht,h⟩; rw [List.mem_singleton] at ht; subst ht; exact h
 ·intro h; exact ⟨s,List.mem_singleton.2 rfl,h⟩
theorem inS_cons {s : CSpan} {l : List CSpan} {x : Int} : inS (s :: l) x↔(s.gfrom≤x∧x < s.gto)∨inS l x:=by
 rw [show s :: l = [s]++l from rfl,inS_app,inS_one]
theorem Can.tail {s : CSpan} {l : List CSpan} (h : Can (s :: l)) : Can l := ⟨(List.pairwise_cons.1 h.1).2,fun t ht=>h.2 t (List.mem_cons_of_mem _ ht)⟩
theorem Can.head {s : CSpan} {l : List CSpan} (h : Can (s :: l)) : ∀ t∈l,s.gto < t.gfrom:=(List.pairwise_cons.1 h.1).1
theorem Can.low {s : CSpan} {l : List CSpan} (h : Can (s :: l)) {x : Int} (hx : inS l x) : s.gto < x:=by
 obtain ⟨t,ht,h1,h2⟩ := hx
 have:=h.head t ht
 omega
theorem Can.ext : ∀ {a b : List CSpan},Can a→Can b→(∀ x,inS a x↔inS b x)→a = b
 | [],[],_,_,_=>rfl
 | [],t :: b,_,hb,h=>by
  have:=(h t.gfrom).2 (inS_cons.2 (.inl ⟨Int.le_refl _,hb.2 t (List.mem_cons_self ..)⟩))
  exact absurd this (inS_nil _)
 | s :: a,[],ha,_,h=>by
  have:=(h s.gfrom).1 (inS_cons.2 (.inl ⟨Int.le_refl _,ha.2 s (List.mem_cons_self ..)⟩))
  exact absurd this (inS_nil _)
 | s :: a,t :: b,ha,hb,h=>by
  have s1:=ha.2 s (List.mem_cons_self ..)
  have t1:=hb.2 t (List.mem_cons_self ..)
  have e1 : s.gfrom = t.gfrom:=by
   have h1:=(h s.gfrom).1 (inS_cons.2 (.inl ⟨Int.le_refl _,s1⟩))
   have h2:=(h t.gfrom).2 (inS_cons.2 (.inl ⟨Int.le_refl _,t1⟩))
   rcases inS_cons.1 h1 with h1 | h1
   ·rcases inS_cons.1 h2 with h2 | h2
    ·omega
    ·have:=ha.low h2; omega
   ·have:=hb.low h1
    rcases inS_cons.1 h2 with h2 | h2
    ·omega
    ·have:=ha.low h2; omega
  have e2 : s.gto = t.gto:=by
   rcases Int.lt_trichotomy s.gto t.gto with hlt | heq | hgt
   ·have:=(h s.gto).2 (inS_cons.2 (.inl ⟨by omega,hlt⟩))
    rcases inS_cons.1 this with h2 | h2
    ·omega
    ·have:=ha.low h2; omega
   ·exact heq
   ·have:=(h t.gto).1 (inS_cons.2 (.inl ⟨by omega,hgt⟩))
    rcases inS_cons.1 this with h2 | h2
    ·omega
    ·have:=hb.low h2; omega
  have e3 : s = t:=by cases s; cases t; simp only at e1 e2; subst e1 e2; rfl
  subst e3
  congr 1
  refine Can.ext ha.tail hb.tail fun x=>⟨fun hx=>?_,fun hx=>?_⟩
  ·have l1:=ha.low hx
   rcases inS_cons.1 ((h x).1 (inS_cons.2 (.inr hx))) with h2 | h2
   ·omega
   ·exact h2
  ·have l1:=hb.low hx
   rcases inS_cons.1 ((h x).2 (inS_cons.2 (.inr hx))) with h2 | h2
   ·omega
   ·exact h2
theorem Can.snoc {l : List CSpan} {s : CSpan} (h : Can l) (h1 : ∀ t∈l,t.gto < s.gfrom) (h2 : s.gfrom < s.gto) : Can (l++[s]):=by
 refine ⟨List.pairwise_append.2 ⟨h.1,List.pairwise_singleton ..,fun a ha b hb=>?_⟩,fun t ht=>?_⟩
 ·rw [List.mem_singleton] at hb; subst hb; exact h1 a ha
 ·rcases List.mem_append.1 ht with ht | ht
  ·exact h.2 t ht
  ·rw [List.mem_singleton] at ht; subst ht; exact h2
theorem Can.init {l : List CSpan} {s : CSpan} (h : Can (l++[s])) : Can l∧(∀ t∈l,t.gto < s.gfrom)∧s.gfrom < s.gto:=by
 have:=List.pairwise_append.1 h.1
 exact ⟨⟨this.1,fun t ht=>h.2 t (List.mem_append_left _ ht)⟩,fun t ht=>this.2.2 t ht s (List.mem_singleton.2 rfl),h.2 s (List.mem_append_right _ (List.mem_singleton.2 rfl))⟩
theorem concat_span (a b : List CSpan) (h : a.length + b.length≤1099511627776) : catS [a,b] = some (a++b):=by
 unfold catS
 have w1 : IntKind.wrap .i64 (0 + (a.length : Int)) = (a.length : Int):=by rw [wrap_i64 (by omega) (by omega)]; omega
 have w2 : IntKind.wrap .i64 ((a.length : Int) + (b.length : Int)) = ((a.length + b.length : Nat) : Int):=by rw [wrap_i64 (by omega) (by omega)]; omega
 rw [foldM_spec (n:=(List.length [a,b] : Int)) (s0:=(0 : Int)) 2 (fun j=>if j = 0 then 0 else if j = 1 then (a.length : Int) else ((a.length + b.length : Nat) : Int)) rfl rfl (by simp) (fun j hj=>?_)]
 ·simp only [Option.bind_some]
  unfold catS_K1
  have hg : groS ((a.length + b.length : Nat) : Int) = some []:=by
   unfold groS
   have hd : decide (((a.length + b.length : Nat) : Int) < 0) = false:=by simp only [decide_eq_false_iff_not]; omega
   rw [hd]
   simp only [Bool.false_eq_true,if_false]
   unfold groS_K1
   have w3 : IntKind.wrap .i64 (((a.length + b.length : Nat) : Int) - IntKind.wrap .i64 (0 - 0)) = ((a.length + b.length : Nat) : Int):=by
    rw [show IntKind.wrap .i64 (0 - 0) = 0 from rfl,wrap_i64 (by omega) (by omega)]; omega
   rw [w3]
   split
   ·rename_i h0
    rw [decide_eq_true_eq] at h0
    rw [chk_pos ⟨h0,by simp only [apOk,Int.toNat_natCast]; omega⟩,chk_pos (by unfold slOk; omega)]
    rfl
   ·rfl
  rw [show (if 2 = 0 then (0 : Int) else if 2 = 1 then (a.length : Int) else ((a.length + b.length : Nat) : Int)) = ((a.length + b.length : Nat) : Int) from rfl,hg,Option.bind_some]
  rw [foldM_spec (n:=(List.length [a,b] : Int)) (s0:=([] : List CSpan)) 2 (fun j=>if j = 0 then [] else if j = 1 then a else a++b) rfl rfl (by simp) (fun j hj=>?_)]
  ·rfl
  ·unfold catS_L3
   rcases (by omega : j = 0∨j = 1) with rfl | rfl
   ·show (idx [a,b] 0).bind _ = _
    rw [show idx [a,b] 0 = some a from rfl]
    simp only [Option.bind_some]
    rw [chk_pos (by simp only [apOk,if_true,List.length_nil]; omega)]
    rfl
   ·show (idx [a,b] 1).bind _ = _
    rw [show idx [a,b] 1 = some b from rfl]
    simp only [Option.bind_some]
    rw [chk_pos (by simp only [apOk,Nat.one_ne_zero,if_false,if_true]; omega)]
    rfl
 ·unfold catS_L4
  rcases (by omega : j = 0∨j = 1) with rfl | rfl
  ·show (idx [a,b] 0).bind _ = _
   rw [show idx [a,b] 0 = some a from rfl]
   simp only [Option.bind_some,if_true,w1]
   rw [if_neg (by simp)]
   rfl
  ·show (idx [a,b] 1).bind _ = _
   rw [show idx [a,b] 1 = some b from rfl]
   simp only [Option.bind_some,Nat.one_ne_zero,if_false,if_true,w2]
   rw [if_neg (by simp; omega)]
   rfl
theorem spanSort_spec (xs : List CSpan) (h : xs.length < 4611686018427387904) : ∃ ys,spanSort xs = some ys∧ys.length = xs.length∧(∀ s,s∈ys↔s∈xs)∧ys.Pairwise (fun s t=>s.gfrom≤t.gfrom):=by
 refine ⟨spanPdq xs,by unfold spanSort; rw [chk_pos h],spanPdq_len xs,fun s=>?_,?_⟩
 ·have hp:=(spanPdq_spec xs).1
  have hl:=spanPdq_len xs
  have h2:=hp.2.2
  simp only [List.size_toArray,Array.toList_extract,List.extract_eq_take_drop] at h2
  simp only [Nat.sub_zero,List.drop_zero,List.take_length] at h2
  rw [List.take_of_length_le (by omega)] at h2
  exact h2.mem_iff
 ·have hs:=(spanPdq_spec xs).2
  rw [List.pairwise_iff_getElem]
  intro i j hi hj hij
  have:=hs i j (Nat.zero_le _) hij (by rw [spanPdq_len] at hj; simpa using hj)
  rw [span_lt] at this
  rw [getElem!_pos (spanPdq xs).toArray i (by simpa using hi),getElem!_pos (spanPdq xs).toArray j (by simpa using hj)] at this
  simpa using this
def spanOk (s : CSpan) : Prop:=0≤s.gfrom∧s.gfrom < s.gto∧s.gto≤18446744073709551615
theorem mergeSpans_spec (a b : List CSpan) (hl : a.length + b.length≤1099511627776) (ha : ∀ s∈a,spanOk s) (hb : ∀ s∈b,spanOk s) : ∃ l,collect_mergeSpans a b = some l∧Can l∧(∀ x,inS l x↔inS a x∨inS b x)∧(∀ s∈l,spanOk s)∧l.length≤a.length + b.length:=by
 unfold collect_mergeSpans
 rw [concat_span a b hl,Option.bind_some]
 obtain ⟨l,h1,h2,h3,h4⟩ := spanSort_spec (a++b) (by simp only [List.length_append]; omega)
 rw [h1,Option.bind_some]
 simp only [List.length_append] at h2
 have hok : ∀ s∈l,spanOk s:=fun s hs=>by
  rcases List.mem_append.1 ((h3 s).1 hs) with h | h
  ·exact ha s h
  ·exact hb s h
 have hm : ∀ x,inS l x↔inS a x∨inS b x:=fun x=>by
  rw [← inS_app]
  constructor
  ·rintro ⟨s,hs,h⟩; exact ⟨s,(h3 s).1 hs,h⟩
  ·rintro ⟨s,hs,h⟩; exact ⟨s,(h3 s).2 hs,h⟩
 rw [List.pairwise_iff_getElem] at h4
 have hInd:=foldM_ind (S:=List CSpan × Int) (mx:=9223372036854775807) (n:=(List.length l : Int)) (body:=fun k s=>collect_mergeSpans_L2 k s.1 s.2) (s0:=(l,0))
  (fun k s=>∃ out junk : List CSpan,s.1 = out++junk∧s.2 = (out.length : Int)∧out.length≤k∧(∀ j,k≤j→s.1[j]? = l[j]?)∧s.1.length = l.length∧(Can out∧(∀ s∈out,spanOk s)∧∀ j (hj : j < l.length),k≤j→∀ s∈out,s.gfrom≤l[j].gfrom)∧∀ x,inS out x↔inS (l.take k) x)
  (by omega) (by omega) ⟨[],l,rfl,rfl,Nat.le_refl _,fun _ _=>rfl,rfl,⟨⟨List.Pairwise.nil,fun s hs=>(by cases hs)⟩,fun s hs=>(by cases hs),fun j _ _ s hs=>(by cases hs)⟩,fun x=>by simp⟩ ?_
 ·obtain ⟨⟨l1,n⟩,k1,out,junk,e1,e2,e3,e4,e5,e6,e7⟩ := hInd
  rw [k1,Option.bind_some]
  dsimp only at e1 e2 e4 e5 ⊢
  subst e1 e2
  unfold collect_mergeSpans_K1
  rw [Int.toNat_natCast] at e3
  rw [chk_pos (by unfold slOk; simp only [List.length_append]; omega),Int.toNat_natCast,List.take_left]
  refine ⟨out,rfl,e6.1,fun x=>?_,e6.2.1,by omega⟩
  rw [e7,Int.toNat_natCast,List.take_length,hm]
 ·rintro k ⟨l1,n⟩ hk ⟨out,junk,e1,e2,e3,e4,e5,⟨e6,e7,e8⟩,e9⟩
  dsimp only at e1 e2 e4 e5 ⊢
  subst e2
  have hk' : k < l.length:=by omega
  have gk : l1[k]? = some l[k]:=by rw [e4 k (Nat.le_refl _),List.getElem?_eq_getElem hk']
  have ik : idx l1 (k : Int) = some l[k]:=by simp [idx,gk]
  have sk:=hok l[k] (List.getElem_mem hk')
  have tk : l.take (k + 1) = l.take k++[l[k]]:=List.take_succ_eq_append_getElem hk'
  unfold collect_mergeSpans_L2
  rw [ik,Option.bind_some]
  rcases List.eq_nil_or_concat out with rfl | ⟨o,t,rfl⟩
  · -- the first run
   simp only [List.nil_append] at e1
   subst e1
   have hd : decide ((0 : Int) < (([] : List CSpan).length : Int)) = false:=rfl
   obtain ⟨j0,js,rfl⟩ : ∃ j0 js,l1 = j0 :: js:=by
    cases l1 with
    | nil=>simp at e5; omega
    | cons j0 js=>exact ⟨_,_,rfl⟩
   refine ⟨(l[k] :: js,1),?_,[l[k]],js,rfl,rfl,by simp,fun j hj=>?_,by simpa using e5,⟨⟨List.pairwise_singleton ..,fun s hs=>by rw [List.mem_singleton] at hs; subst hs; exact sk.2.1⟩,fun s hs=>by rw [List.mem_singleton] at hs; subst hs; exact sk,fun j hj hkj s hs=>?_⟩,fun x=>?_⟩
   ·simp only [hd,gb,Bool.false_and,Bool.false_eq_true,if_false,Option.bind_some]
    rfl
   ·have:=e4 j (by omega)
    cases j with
    | zero=>omega
    | succ j=>simpa using this
   ·rw [List.mem_singleton] at hs; subst hs
    exact h4 k j hk' hj (by omega)
   ·rw [tk,inS_app,← e9 x]
    simp [inS_nil]
  ·rw [List.concat_eq_append] at *
   have hn : ((o++[t]).length : Int) = (o.length : Int) + 1:=by simp
   have hd : decide ((0 : Int) < ((o++[t]).length : Int)) = true:=by simp only [decide_eq_true_eq]; omega
   have hol : o.length < l1.length:=by
    have:=congrArg List.length e1
    simp at this; omega
   have w1 : IntKind.wrap .i64 (((o++[t]).length : Int) - 1) = (o.length : Int):=by
    have : l1.length≤1099511627776:=by omega
    rw [wrap_i64 (by omega) (by omega)]; omega
   have gt : idx l1 (o.length : Int) = some t:=by
    rw [e1]; simp [idx]
   obtain ⟨c1,c2,c3⟩ := e6.init
   have tl : t.gfrom≤l[k].gfrom:=e8 k hk' (Nat.le_refl _) t (by simp)
   have ht:=e7 t (by simp)
   rw [w1]
   simp only [hd,gb,if_true,gt,Option.bind_some,Bool.true_and,Int.toNat_natCast]
   by_cases hc : l[k].gfrom≤t.gto
   ·rw [if_pos (by simpa using hc)]
    generalize hT : (if l[k].gto > t.gto then l[k].gto else t.gto) = T
    have hT1 : t.gto≤T∧l[k].gto≤T∧(T = t.gto∨T = l[k].gto):=by rw [← hT]; split <;> omega
    have es : List.set l1 o.length (CSpan.mk t.gfrom T) = (o++[⟨t.gfrom,T⟩])++junk:=by
     rw [e1,List.append_assoc,List.set_append_right _ _ (Nat.le_refl _),Nat.sub_self]
     simp
    have sk2:=sk.2.2
    have ht2:=ht.2.2
    refine ⟨((o++[⟨t.gfrom,T⟩])++junk,((o++[t]).length : Int)),by rw [es],o++[⟨t.gfrom,T⟩],junk,rfl,by simp,by simp at e3 ⊢; omega,fun j hj=>?_,by rw [← es,List.length_set]; exact e5,⟨c1.snoc c2 (by (try dsimp only); omega),fun s hs=>?_,fun j hj hkj s hs=>?_⟩,fun x=>?_⟩
    ·rw [← es,List.getElem?_set,if_neg (by simp at e3; omega)]
     exact e4 j (by omega)
    ·rcases List.mem_append.1 hs with hs | hs
     ·exact e7 s (List.mem_append_left _ hs)
     ·rw [List.mem_singleton] at hs; subst hs
      exact ⟨ht.1,by (try dsimp only); omega,by (try dsimp only); omega⟩
    ·rcases List.mem_append.1 hs with hs | hs
     ·exact e8 j hj (by omega) s (List.mem_append_left _ hs)
     ·rw [List.mem_singleton] at hs; subst hs
      exact e8 j hj (by omega) t (by simp)
    ·rw [tk,inS_app (a:=l.take k),← e9 x,inS_app,inS_app,inS_one,inS_one,inS_one]
     dsimp only
     constructor
     ·rintro (h | h)
      ·exact .inl (.inl h)
      ·by_cases hx : x < t.gto
       ·exact .inl (.inr ⟨h.1,hx⟩)
       ·exact .inr ⟨by omega,by omega⟩
     ·rintro ((h | h) | h)
      ·exact .inl h
      ·exact .inr ⟨h.1,by omega⟩
      ·exact .inr ⟨by omega,by omega⟩
   ·rw [if_neg (by simpa using hc)]
    have hlen:=congrArg List.length e1
    obtain ⟨j0,js,rfl⟩ : ∃ j0 js,junk = j0 :: js:=by
     cases junk with
     | nil=>simp at hlen e3; omega
     | cons j0 js=>exact ⟨_,_,rfl⟩
    have gn : idx l1 ((o++[t]).length : Int) = some j0:=by rw [e1]; exact idx_app _ _ _
    have w2 : IntKind.wrap .i64 (((o++[t]).length : Int) + 1) = ((o++[t]++[l[k]]).length : Int):=by
     have : l1.length≤1099511627776:=by omega
     rw [wrap_i64 (by omega) (by omega)]; simp only [List.length_append,List.length_singleton]; omega
    have es : List.set l1 (o++[t]).length l[k] = (o++[t]++[l[k]])++js:=by
     rw [e1,set_app]
     simp
    rw [gn,Option.bind_some,w2,es]
    refine ⟨_,rfl,o++[t]++[l[k]],js,rfl,rfl,by simp at e3 ⊢; omega,fun j hj=>?_,by rw [← es,List.length_set]; exact e5,⟨e6.snoc (fun s hs=>?_) sk.2.1,fun s hs=>?_,fun j hj hkj s hs=>?_⟩,fun x=>?_⟩
    ·rw [← es,List.getElem?_set]
     by_cases hj2 : (o++[t]).length = j
     ·simp at e3 hj2; omega
     ·rw [if_neg hj2]; exact e4 j (by omega)
    ·rcases List.mem_append.1 hs with hs | hs
     ·have:=c2 s hs; omega
     ·rw [List.mem_singleton] at hs; subst hs; omega
    ·rcases List.mem_append.1 hs with hs | hs
     ·exact e7 s hs
     ·rw [List.mem_singleton] at hs; subst hs; exact sk
    ·rcases List.mem_append.1 hs with hs | hs
     ·exact e8 j hj (by omega) s hs
     ·rw [List.mem_singleton] at hs; subst hs; exact h4 k j hk' hj (by omega)
    ·rw [tk,inS_app (a:=l.take k),inS_app,← e9 x]
def Asc (l : List Rk) : Prop:=l.Pairwise (fun x y=>x.gSeq < y.gSeq)
def hasN (l : List Rk) (x : Int) : Prop := ∃ r∈l,r.gSeq = x
theorem Asc.at {l : List Rk} (h : Asc l) {i j : Nat} (hij : i < j) (hj : j < l.length) : l[i].gSeq < l[j].gSeq:=(List.pairwise_iff_getElem.1 h) i j (by omega) hj hij
theorem Asc.le {l : List Rk} (h : Asc l) {i j : Nat} (hij : i≤j) (hj : j < l.length) : l[i].gSeq≤l[j].gSeq:=by
 rcases Nat.lt_or_eq_of_le hij with h1 | h1
 ·have:=h.at h1 hj; omega
 ·subst h1; exact Int.le_refl _
def seqOk (r : Rk) : Prop:=0≤r.gSeq∧r.gSeq < 18446744073709551615
theorem without_skip (es : List Rk) (v : CSpan) (hes : Asc es) (hn : es.length≤1099511627776) (i : Nat) (hi : i≤es.length) (hlow : ∀ j (hj : j < es.length),j < i→es[j].gSeq < v.gfrom) :
  ∃ i' : Nat,whileM (E:=Int) (fun s=>collect_without_L8 es v s) (i : Int) = some (i' : Int)∧i≤i'∧i'≤es.length∧(∀ j (hj : j < es.length),j < i'→es[j].gSeq < v.gfrom)∧∀ j (hj : j < es.length),i'≤j→v.gfrom≤es[j].gSeq:=by
 have:=whileM_ind (S:=Int) (E:=Int) (step:=fun s=>collect_without_L8 es v s) (s0:=(i : Int)) (fun s=>∃ n : Nat,s = (n : Int)∧i≤n∧n≤es.length∧∀ j (hj : j < es.length),j < n→es[j].gSeq < v.gfrom) (fun s=>((es.length : Int) - s).toNat) (fun e=>∃ i' : Nat,e = (i' : Int)∧i≤i'∧i'≤es.length∧(∀ j (hj : j < es.length),j < i'→es[j].gSeq < v.gfrom)∧∀ j (hj : j < es.length),i'≤j→v.gfrom≤es[j].gSeq) ⟨i,rfl,Nat.le_refl _,hi,hlow⟩ (by (try dsimp only); omega) ?_
 ·obtain ⟨e,h1,i',rfl,h2⟩ := this
  exact ⟨i',h1,h2⟩
 ·rintro s ⟨n,rfl,h1,h2,h3⟩
  unfold collect_without_L8
  by_cases hc : n < es.length
  ·have hd : decide ((n : Int) < (es.length : Int)) = true:=by simp only [decide_eq_true_eq]; omega
   rw [hd]
   simp only [gb,if_true,idx_lt hc,Option.bind_some,Bool.true_and]
   by_cases h4 : es[n].gSeq < v.gfrom
   ·have w : IntKind.wrap .i64 ((n : Int) + 1) = ((n + 1 : Nat) : Int):=by rw [wrap_i64 (by omega) (by omega)]; omega
    refine .inl ⟨((n + 1 : Nat) : Int),by simp only [h4,decide_true,if_true,w],⟨n + 1,rfl,by omega,by omega,fun j hj hjn=>?_⟩,by (try dsimp only); omega⟩
    by_cases e : j = n
    ·subst e; exact h4
    ·exact h3 j hj (by omega)
   ·refine .inr ⟨(n : Int),by simp only [h4,decide_false,Bool.false_eq_true,if_false],n,rfl,h1,h2,h3,fun j hj hjn=>?_⟩
    have:=hes.le hjn hj; omega
  ·have hd : decide ((n : Int) < (es.length : Int)) = false:=by simp only [decide_eq_false_iff_not]; omega
   rw [hd]
   exact .inr ⟨(n : Int),by simp only [gb,Bool.false_and,Bool.false_eq_true,if_false,Option.bind_some],n,rfl,h1,h2,h3,fun j hj hjn=>by omega⟩
theorem without_run (es : List Rk) (v : CSpan) (hes : Asc es) (hok : ∀ r∈es,seqOk r) (hn : es.length≤1099511627776) (hv : spanOk v) (out : List CSpan) (i : Nat) (hi : i≤es.length) (hlow : ∀ j (hj : j < es.length),j < i→es[j].gSeq < v.gfrom) (hhigh : ∀ j (hj : j < es.length),i≤j→v.gfrom≤es[j].gSeq)
  (hc : Can out) (hsp : ∀ s∈out,spanOk s) (L : Nat) (hL : L≤1099511627776) (hl : out.length≤L + i) (ho : ∀ t∈out,t.gto < v.gfrom) :
  ∃ (out' : List CSpan) (i' : Nat) (f : Int),whileM (E:=(List CSpan) × Int × Int) (fun s=>collect_without_L6 es v s.1 s.2.1 s.2.2) (out,(i : Int),v.gfrom) = some (out',(i' : Int),f)∧i≤i'∧i'≤es.length∧v.gfrom≤f∧f≤v.gto∧(∀ j (hj : j < es.length),j < i'→es[j].gSeq < f)∧(∀ j (hj : j < es.length),i'≤j→v.gto≤es[j].gSeq)∧Can out'∧(∀ s∈out',spanOk s)∧out'.length≤L + i'∧(∀ t∈out',t.gto < f)∧∀ x,inS out' x↔inS out x∨((v.gfrom≤x∧x < f)∧¬ hasN es x):=by
 have:=whileM_ind (S:=(List CSpan) × Int × Int) (E:=(List CSpan) × Int × Int) (step:=fun s=>collect_without_L6 es v s.1 s.2.1 s.2.2) (s0:=(out,(i : Int),v.gfrom))
  (fun s=>∃ i' : Nat,s.2.1 = (i' : Int)∧i≤i'∧i'≤es.length∧v.gfrom≤s.2.2∧s.2.2≤v.gto∧(∀ j (hj : j < es.length),j < i'→es[j].gSeq < s.2.2)∧(∀ j (hj : j < es.length),i'≤j→s.2.2≤es[j].gSeq)∧Can s.1∧(∀ t∈s.1,spanOk t)∧s.1.length≤L + i'∧(∀ t∈s.1,t.gto < s.2.2)∧∀ x,inS s.1 x↔inS out x∨((v.gfrom≤x∧x < s.2.2)∧¬ hasN es x))
  (fun s=>((es.length : Int) - s.2.1).toNat)
  (fun s=>∃ i' : Nat,s.2.1 = (i' : Int)∧i≤i'∧i'≤es.length∧v.gfrom≤s.2.2∧s.2.2≤v.gto∧(∀ j (hj : j < es.length),j < i'→es[j].gSeq < s.2.2)∧(∀ j (hj : j < es.length),i'≤j→v.gto≤es[j].gSeq)∧Can s.1∧(∀ t∈s.1,spanOk t)∧s.1.length≤L + i'∧(∀ t∈s.1,t.gto < s.2.2)∧∀ x,inS s.1 x↔inS out x∨((v.gfrom≤x∧x < s.2.2)∧¬ hasN es x))
  ⟨i,rfl,Nat.le_refl _,hi,Int.le_refl _,by have:=hv.2.1; dsimp only; omega,hlow,hhigh,hc,hsp,hl,ho,fun x=>⟨fun h=>.inl h,fun h=>h.elim id fun h=>by dsimp only at h; omega⟩⟩ (by (try dsimp only); omega) ?_
 ·obtain ⟨⟨out',e,f⟩,h1,i',h2,h3⟩ := this
  dsimp only at h2 h3
  subst h2
  exact ⟨out',i',f,h1,h3⟩
 ·rintro ⟨o1,ii,f⟩ ⟨n,h1,h2,h3,h4,h5,h6,h7,h8,h9,h10,h11,h12⟩
  dsimp only at h1 h4 h5 h6 h7 h8 h9 h10 h11 h12 ⊢
  subst h1
  have hv1:=hv.1
  have hv2:=hv.2.2
  unfold collect_without_L6
  by_cases hcn : n < es.length
  ·have hd : decide ((n : Int) < (es.length : Int)) = true:=by simp only [decide_eq_true_eq]; omega
   have gn:=h7 n hcn (Nat.le_refl _)
   have so:=hok es[n] (List.getElem_mem hcn)
   rw [hd]
   simp only [gb,if_true,idx_lt hcn,Option.bind_some,Bool.true_and]
   by_cases ht : es[n].gSeq < v.gto
   ·have w : IntKind.wrap .i64 ((n : Int) + 1) = ((n + 1 : Nat) : Int):=by rw [wrap_i64 (by omega) (by omega)]; omega
    have w2 : IntKind.wrap .u64 (es[n].gSeq + 1) = es[n].gSeq + 1:=wrap_u64 (by have:=so.1; omega) (by have:=so.2; omega)
    have nxt : ∀ o2,collect_without_K7 es (n : Int) o2 = some (.next (o2,((n + 1 : Nat) : Int),es[n].gSeq + 1)):=fun o2=>by
     unfold collect_without_K7
     rw [idx_lt hcn,Option.bind_some,w,w2]
    have a6 : ∀ j (hj : j < es.length),j < n + 1→es[j].gSeq < es[n].gSeq + 1:=fun j hj hjn=>by
     have:=hes.le (show j≤n by omega) hcn; omega
    have a7 : ∀ j (hj : j < es.length),n + 1≤j→es[n].gSeq + 1≤es[j].gSeq:=fun j hj hjn=>by
     have:=hes.at (show n < j by omega) hj; omega
    have hasn : hasN es es[n].gSeq := ⟨_,List.getElem_mem hcn,rfl⟩
    have gap : ∀ x,f≤x→x < es[n].gSeq→¬ hasN es x:=by
     rintro x x1 x2 ⟨r,hr,rfl⟩
     obtain ⟨j,hj,rfl⟩ := List.getElem_of_mem hr
     by_cases hjn : j < n
     ·have:=h6 j hj hjn; omega
     ·have:=hes.le (show n≤j by omega) hj; omega
    by_cases hf : f < es[n].gSeq
    ·have hso : spanOk ⟨f,es[n].gSeq⟩ := ⟨by (try dsimp only); omega,hf,by (try dsimp only); omega⟩
     refine .inl ⟨(o1++[⟨f,es[n].gSeq⟩],((n + 1 : Nat) : Int),es[n].gSeq + 1),?_,⟨n + 1,rfl,by omega,by omega,by (try dsimp only); omega,by (try dsimp only); omega,a6,a7,h8.snoc h11 hf,fun t ht'=>?_,by simp; omega,fun t ht'=>?_,fun x=>?_⟩,by (try dsimp only); omega⟩
     ·simp only [ht,hf,decide_true,if_true,idx_lt hcn,Option.bind_some]
      rw [chk_pos (by simp [apOk]; omega)]
      exact nxt _
     ·rcases List.mem_append.1 ht' with ht' | ht'
      ·exact h9 t ht'
      ·rw [List.mem_singleton] at ht'; subst ht'; exact hso
     ·dsimp only
      rcases List.mem_append.1 ht' with ht' | ht'
      ·have:=h11 t ht'; omega
      ·rw [List.mem_singleton] at ht'; subst ht'; dsimp only; omega
     ·dsimp only
      rw [inS_app,h12,inS_one]
      dsimp only
      constructor
      ·rintro ((h | h) | h)
       ·exact .inl h
       ·exact .inr ⟨⟨h.1.1,by omega⟩,h.2⟩
       ·exact .inr ⟨⟨by omega,by omega⟩,gap x h.1 h.2⟩
      ·rintro (h | ⟨h,hh⟩)
       ·exact .inl (.inl h)
       ·by_cases x1 : x < f
        ·exact .inl (.inr ⟨⟨h.1,x1⟩,hh⟩)
        ·by_cases x2 : x = es[n].gSeq
         ·subst x2; exact absurd hasn hh
         ·exact .inr ⟨by omega,by omega⟩
    ·have hfe : f = es[n].gSeq:=by omega
     refine .inl ⟨(o1,((n + 1 : Nat) : Int),es[n].gSeq + 1),?_,⟨n + 1,rfl,by omega,by omega,by (try dsimp only); omega,by (try dsimp only); omega,a6,a7,h8,h9,by (try dsimp only); omega,fun t ht'=>?_,fun x=>?_⟩,by (try dsimp only); omega⟩
     ·simp only [ht,hf,decide_true,decide_false,if_true,Bool.false_eq_true,if_false]
      exact nxt _
     ·have:=h11 t ht'; dsimp only; omega
     ·dsimp only
      rw [h12]
      constructor
      ·rintro (h | h)
       ·exact .inl h
       ·exact .inr ⟨⟨h.1.1,by omega⟩,h.2⟩
      ·rintro (h | ⟨h,hh⟩)
       ·exact .inl h
       ·by_cases x1 : x < f
        ·exact .inr ⟨⟨h.1,x1⟩,hh⟩
        ·have : x = es[n].gSeq:=by omega
         subst this; exact absurd hasn hh
   ·refine .inr ⟨(o1,(n : Int),f),by simp only [ht,decide_false,Bool.false_eq_true,if_false],n,rfl,h2,h3,h4,h5,h6,fun j hj hjn=>?_,h8,h9,h10,h11,h12⟩
    have:=hes.le hjn hj; omega
  ·have hd : decide ((n : Int) < (es.length : Int)) = false:=by simp only [decide_eq_false_iff_not]; omega
   rw [hd]
   exact .inr ⟨(o1,(n : Int),f),by simp only [gb,Bool.false_and,Bool.false_eq_true,if_false,Option.bind_some],n,rfl,h2,h3,h4,h5,h6,fun j hj hjn=>by omega,h8,h9,h10,h11,h12⟩
theorem without_spec (l : List CSpan) (es : List Rk) (hc : Can l) (hsp : ∀ s∈l,spanOk s) (hes : Asc es) (hok : ∀ r∈es,seqOk r) (hl : l.length≤1099511627776) (hn : es.length≤1099511627776) : ∃ o,collect_without l es = some o∧Can o∧(∀ x,inS o x↔inS l x∧¬ hasN es x)∧(∀ s∈o,spanOk s)∧o.length≤l.length + es.length:=by
 unfold collect_without
 have hInd:=foldM_ind (S:=List CSpan × Int) (mx:=9223372036854775807) (n:=(List.length l : Int)) (body:=fun k s=>collect_without_L2 l es k s.1 s.2) (s0:=(([] : List CSpan),0))
  (fun k s=>∃ i : Nat,s.2 = (i : Int)∧i≤es.length∧(∀ q (hq : q < l.length),k≤q→∀ j (hj : j < es.length),j < i→es[j].gSeq < l[q].gfrom)∧(∀ q (hq : q < l.length),k≤q→∀ t∈s.1,t.gto < l[q].gfrom)∧Can s.1∧(∀ t∈s.1,spanOk t)∧s.1.length≤k + i∧∀ x,inS s.1 x↔inS (l.take k) x∧¬ hasN es x)
  (by omega) (by omega) ⟨0,rfl,Nat.zero_le _,fun q _ _ j _ hj=>by omega,fun q _ _ t ht=>(by cases ht),⟨List.Pairwise.nil,fun s hs=>(by cases hs)⟩,fun s hs=>(by cases hs),Nat.zero_le _,fun x=>by simp [inS_nil]⟩ ?_
 ·obtain ⟨⟨o,ii⟩,h1,i,e1,e2,e3,e4,e5,e6,e7,e8⟩ := hInd
  rw [h1,Option.bind_some]
  dsimp only at e5 e6 e7 e8 ⊢
  refine ⟨o,rfl,e5,fun x=>?_,e6,?_⟩
  ·rw [e8,Int.toNat_natCast,List.take_length]
  ·rw [Int.toNat_natCast] at e7; omega
 ·rintro k ⟨o,ii⟩ hk ⟨i,e1,e2,e3,e4,e5,e6,e7,e8⟩
  dsimp only at e1 e4 e5 e6 e7 e8 ⊢
  subst e1
  have hk' : k < l.length:=by omega
  unfold collect_without_L2
  rw [idx_lt hk',Option.bind_some]
  have hv:=hsp l[k] (List.getElem_mem hk')
  have tk : l.take (k + 1) = l.take k++[l[k]]:=List.take_succ_eq_append_getElem hk'
  generalize hvk : l[k] = v at hv tk ⊢
  have nxtlow : ∀ q (hq : q < l.length),k + 1≤q→v.gto < l[q].gfrom:=fun q hq hkq=>by
   have:=List.pairwise_iff_getElem.1 hc.1 k q hk' hq (by omega)
   rw [hvk] at this; exact this
  obtain ⟨i1,a1,a2,a3,a4,a5⟩ := without_skip es v hes hn i e2 (fun j hj hji=>by have:=e3 k hk' (Nat.le_refl _) j hj hji; rw [hvk] at this; exact this)
  rw [a1,Option.bind_some]
  unfold collect_without_K4
  obtain ⟨o2,i2,f,b1,b2,b3,b4,b5,b6,b7,b8,b9,b10,b11,b12⟩ := without_run es v hes hok hn hv o i1 a3 a4 a5 e5 e6 k (by omega) (by omega) (fun t ht=>by have:=e4 k hk' (Nat.le_refl _) t ht; rw [hvk] at this; exact this)
  rw [b1,Option.bind_some]
  have gap : ∀ x,f≤x→x < v.gto→¬ hasN es x:=by
   rintro x x1 x2 ⟨r,hr,rfl⟩
   obtain ⟨j,hj,rfl⟩ := List.getElem_of_mem hr
   by_cases hjn : j < i2
   ·have:=b6 j hj hjn; omega
   ·have:=b7 j hj (by omega); omega
  unfold collect_without_K5
  dsimp only
  have fin : ∀ o3 : List CSpan,Can o3→(∀ t∈o3,spanOk t)→o3.length≤k + 1 + i2→(∀ t∈o3,t.gto≤v.gto)→(∀ x,inS o3 x↔inS o x∨((v.gfrom≤x∧x < v.gto)∧¬ hasN es x))→∃ s',collect_without_K3 o3 (i2 : Int) = some s'∧∃ i : Nat,s'.2 = (i : Int)∧i≤es.length∧(∀ q (hq : q < l.length),k + 1≤q→∀ j (hj : j < es.length),j < i→es[j].gSeq < l[q].gfrom)∧(∀ q (hq : q < l.length),k + 1≤q→∀ t∈s'.1,t.gto < l[q].gfrom)∧Can s'.1∧(∀ t∈s'.1,spanOk t)∧s'.1.length≤k + 1 + i∧∀ x,inS s'.1 x↔inS (l.take (k + 1)) x∧¬ hasN es x:=by
   intro o3 c1 c2 c3 c4 c5
   refine ⟨(o3,(i2 : Int)),rfl,i2,rfl,b3,fun q hq hkq j hj hji=>?_,fun q hq hkq t ht=>?_,c1,c2,c3,fun x=>?_⟩
   ·have:=nxtlow q hq hkq
    have:=b6 j hj hji
    omega
   ·have:=nxtlow q hq hkq
    have:=c4 t ht
    omega
   ·rw [c5,tk,inS_app,inS_one,e8]
    constructor
    ·rintro (h | h)
     ·exact ⟨.inl h.1,h.2⟩
     ·exact ⟨.inr h.1,h.2⟩
    ·rintro ⟨h | h,h'⟩
     ·exact .inl ⟨h,h'⟩
     ·exact .inr ⟨h,h'⟩
  by_cases hf : f < v.gto
  ·have hv1:=hv.1
   have hv2:=hv.2.2
   rw [if_pos (by simpa using hf),chk_pos (by simp [apOk]; omega)]
   refine fin _ (b8.snoc b11 hf) (fun t ht=>?_) (by simp; omega) (fun t ht=>?_) (fun x=>?_)
   ·rcases List.mem_append.1 ht with ht | ht
    ·exact b9 t ht
    ·rw [List.mem_singleton] at ht; subst ht; exact ⟨by (try dsimp only); omega,hf,hv2⟩
   ·rcases List.mem_append.1 ht with ht | ht
    ·have:=b11 t ht; omega
    ·rw [List.mem_singleton] at ht; subst ht; exact Int.le_refl _
   ·rw [inS_app,b12,inS_one]
    dsimp only
    constructor
    ·rintro ((h | h) | h)
     ·exact .inl h
     ·exact .inr ⟨⟨h.1.1,by omega⟩,h.2⟩
     ·exact .inr ⟨⟨by omega,h.2⟩,gap x h.1 h.2⟩
    ·rintro (h | ⟨h,hh⟩)
     ·exact .inl (.inl h)
     ·by_cases x1 : x < f
      ·exact .inl (.inr ⟨⟨h.1,x1⟩,hh⟩)
      ·exact .inr ⟨by omega,h.2⟩
  ·have hfe : f = v.gto:=by omega
   rw [if_neg (by simpa using hf)]
   refine fin _ b8 b9 (by omega) (fun t ht=>by have:=b11 t ht; omega) (fun x=>?_)
   rw [b12,hfe]
def Eqr (x y : Rk) : Prop:=recEq (reOf x) (reOf y) = true
theorem recEq_iff {a b : Re} : recEq a b = true↔a.comp = b.comp∧a.seq = b.seq∧(∀ i < 16,a.clk i = b.clk i)∧a.what = b.what∧a.ev = b.ev∧a.count = b.count:=by
 unfold recEq
 simp only [Bool.and_eq_true,beq_iff_eq,sameTo_iff,evEq_iff]
 constructor
 ·rintro ⟨⟨⟨⟨⟨h1,h2⟩,h3⟩,h4⟩,h5⟩,h6⟩; exact ⟨h1,h2,h3,h4,h5,h6⟩
 ·rintro ⟨h1,h2,h3,h4,h5,h6⟩; exact ⟨⟨⟨⟨⟨h1,h2⟩,h3⟩,h4⟩,h5⟩,h6⟩
theorem Eqr.refl (x : Rk) : Eqr x x:=recEq_iff.2 ⟨rfl,rfl,fun _ _=>rfl,rfl,rfl,rfl⟩
theorem Eqr.symm {x y : Rk} (h : Eqr x y) : Eqr y x:=by
 obtain ⟨h1,h2,h3,h4,h5,h6⟩ := recEq_iff.1 h
 exact recEq_iff.2 ⟨h1.symm,h2.symm,fun i hi=>(h3 i hi).symm,h4.symm,h5.symm,h6.symm⟩
theorem Eqr.trans {x y z : Rk} (h : Eqr x y) (k : Eqr y z) : Eqr x z:=by
 obtain ⟨h1,h2,h3,h4,h5,h6⟩ := recEq_iff.1 h
 obtain ⟨k1,k2,k3,k4,k5,k6⟩ := recEq_iff.1 k
 exact recEq_iff.2 ⟨h1.trans k1,h2.trans k2,fun i hi=>(h3 i hi).trans (k3 i hi),h4.trans k4,h5.trans k5,h6.trans k6⟩
theorem Eqr.seq {x y : Rk} (h : Eqr x y) : x.gSeq = y.gSeq:=(recEq_iff.1 h).2.1
theorem equal_eq {x y : Rk} (h : reFits x = true) : record_Equal x y = some (recEq (reOf x) (reOf y)):=by unfold record_Equal; rw [chk_pos h]
theorem fits_seq {x : Rk} (h : reFits x = true) : 0≤x.gSeq∧x.gSeq≤18446744073709551615:=by
 have:=(reFits_T h).1.seq
 simp only [U64,reOf] at this
 omega
theorem concat_rec (a b : List Rk) (h : a.length + b.length≤137438953472) : catR [a,b] = some (a++b):=by
 unfold catR
 have w1 : IntKind.wrap .i64 (0 + (a.length : Int)) = (a.length : Int):=by rw [wrap_i64 (by omega) (by omega)]; omega
 have w2 : IntKind.wrap .i64 ((a.length : Int) + (b.length : Int)) = ((a.length + b.length : Nat) : Int):=by rw [wrap_i64 (by omega) (by omega)]; omega
 rw [foldM_spec (n:=(List.length [a,b] : Int)) (s0:=(0 : Int)) 2 (fun j=>if j = 0 then 0 else if j = 1 then (a.length : Int) else ((a.length + b.length : Nat) : Int)) rfl rfl (by simp) (fun j hj=>?_)]
 ·simp only [Option.bind_some]
  unfold catR_K1
  have hg : groR ((a.length + b.length : Nat) : Int) = some []:=by
   unfold groR
   have hd : decide (((a.length + b.length : Nat) : Int) < 0) = false:=by simp only [decide_eq_false_iff_not]; omega
   rw [hd]
   simp only [Bool.false_eq_true,if_false]
   unfold groR_K1
   have w3 : IntKind.wrap .i64 (((a.length + b.length : Nat) : Int) - IntKind.wrap .i64 (0 - 0)) = ((a.length + b.length : Nat) : Int):=by
    rw [show IntKind.wrap .i64 (0 - 0) = 0 from rfl,wrap_i64 (by omega) (by omega)]; omega
   rw [w3]
   split
   ·rename_i h0
    rw [decide_eq_true_eq] at h0
    rw [chk_pos ⟨h0,by simp only [apOk,Int.toNat_natCast]; omega⟩,chk_pos (by unfold slOk; omega)]
    rfl
   ·rfl
  rw [show (if 2 = 0 then (0 : Int) else if 2 = 1 then (a.length : Int) else ((a.length + b.length : Nat) : Int)) = ((a.length + b.length : Nat) : Int) from rfl,hg,Option.bind_some]
  rw [foldM_spec (n:=(List.length [a,b] : Int)) (s0:=([] : List Rk)) 2 (fun j=>if j = 0 then [] else if j = 1 then a else a++b) rfl rfl (by simp) (fun j hj=>?_)]
  ·rfl
  ·unfold catR_L3
   rcases (by omega : j = 0∨j = 1) with rfl | rfl
   ·show (idx [a,b] 0).bind _ = _
    rw [show idx [a,b] 0 = some a from rfl]
    simp only [Option.bind_some]
    rw [chk_pos (by simp only [apOk,if_true,List.length_nil]; omega)]
    rfl
   ·show (idx [a,b] 1).bind _ = _
    rw [show idx [a,b] 1 = some b from rfl]
    simp only [Option.bind_some]
    rw [chk_pos (by simp only [apOk,Nat.one_ne_zero,if_false,if_true]; omega)]
    rfl
 ·unfold catR_L4
  rcases (by omega : j = 0∨j = 1) with rfl | rfl
  ·show (idx [a,b] 0).bind _ = _
   rw [show idx [a,b] 0 = some a from rfl]
   simp only [Option.bind_some,if_true,w1]
   rw [if_neg (by simp)]
   rfl
  ·show (idx [a,b] 1).bind _ = _
   rw [show idx [a,b] 1 = some b from rfl]
   simp only [Option.bind_some,Nat.one_ne_zero,if_false,if_true,w2]
   rw [if_neg (by simp; omega)]
   rfl
theorem mergeEntries_spec (a b : List Rk) (hl : a.length + b.length≤137438953472) (hf : ∀ r∈a++b,reFits r = true) :
  ((∃ x∈a++b,∃ y∈a++b,x.gSeq = y.gSeq∧¬ Eqr x y)∧collect_mergeEntries a b = some ([],false)) ∨
  ((∀ x∈a++b,∀ y∈a++b,x.gSeq = y.gSeq→Eqr x y)∧∃ l,collect_mergeEntries a b = some (l,true)∧Asc l∧(∀ x∈l,x∈a++b)∧(∀ x∈a++b,∃ y∈l,Eqr y x)∧l.length≤a.length + b.length):=by
 unfold collect_mergeEntries
 rw [concat_rec a b hl,Option.bind_some]
 obtain ⟨l,h1,h2,h3⟩ := stable_spec (a++b) (by simp only [List.length_append]; omega)
 rw [h1,Option.bind_some]
 have hlen : l.length = a.length + b.length:=by rw [h2.length_eq,List.length_append]
 have hmem : ∀ x,x∈l↔x∈a++b:=fun x=>h2.mem_iff
 have hfit : ∀ r∈l,reFits r = true:=fun r hr=>hf r ((hmem r).1 hr)
 have hsort : ∀ i j (hi : i < l.length) (hj : j < l.length),i≤j→l[i].gSeq≤l[j].gSeq:=fun i j hi hj hij=>by
  have:=h3.le (Nat.zero_le i) hij hj
  rw [sqAt_some (List.getElem?_eq_getElem hi),sqAt_some (List.getElem?_eq_getElem hj)] at this
  exact this
 have hInd:=forM_ind (S:=List Rk × Int) (E:=List Rk × Bool) (mx:=9223372036854775807) (n:=(List.length l : Int)) (body:=fun k s=>collect_mergeEntries_L2 k s.1 s.2) (s0:=(l,0))
  (fun k s=>∃ out junk : List Rk,s.1 = out++junk∧s.2 = (out.length : Int)∧out.length≤k∧(∀ j,k≤j→s.1[j]? = l[j]?)∧s.1.length = l.length∧Asc out∧(∀ x∈out,x∈l)∧(∀ x∈l.take k,∃ y∈out,Eqr y x)∧(∀ k',k = k' + 1→∃ o t,out = o++[t]∧∀ (hk : k' < l.length),t.gSeq = l[k'].gSeq))
  (fun t=>match t with
   | .next s=>∃ out junk : List Rk,s.1 = out++junk∧s.2 = (out.length : Int)∧Asc out∧(∀ x∈out,x∈l)∧(∀ x∈l,∃ y∈out,Eqr y x)∧s.1.length = l.length
   | .done r=>r = ([],false)∧∃ x∈l,∃ y∈l,x.gSeq = y.gSeq∧¬ Eqr x y)
  (by omega) (by omega) ⟨[],l,rfl,rfl,Nat.le_refl _,fun _ _=>rfl,rfl,List.Pairwise.nil,fun x hx=>(by cases hx),fun x hx=>by simp at hx,fun k' h=>by omega⟩ ?_ ?_
 ·obtain ⟨t,k1,k2⟩ := hInd
  rw [k1]
  cases t with
  | done r=>
   obtain ⟨rfl,x,hx,y,hy,h4,h5⟩ := k2
   exact .inl ⟨⟨x,(hmem x).1 hx,y,(hmem y).1 hy,h4,h5⟩,rfl⟩
  | next s=>
   obtain ⟨out,junk,e1,e2,e3,e4,e5,e6⟩ := k2
   have hol : out.length≤l.length:=by have:=congrArg List.length e1; rw [List.length_append] at this; omega
   refine .inr ⟨fun x hx y hy hxy=>?_,out,?_,e3,fun x hx=>(hmem x).1 (e4 x hx),fun x hx=>e5 x ((hmem x).2 hx),by omega⟩
   ·obtain ⟨x',x1,x2⟩ := e5 x ((hmem x).2 hx)
    obtain ⟨y',y1,y2⟩ := e5 y ((hmem y).2 hy)
    have : x' = y' := by
     have hs : x'.gSeq = y'.gSeq:=by rw [x2.seq,y2.seq,hxy]
     obtain ⟨i,hi,rfl⟩ := List.getElem_of_mem x1
     obtain ⟨j,hj,rfl⟩ := List.getElem_of_mem y1
     rcases Nat.lt_trichotomy i j with h | h | h
     ·have:=Asc.at e3 h hj; omega
     ·subst h; rfl
     ·have:=Asc.at e3 h hi; omega
    subst this
    exact x2.symm.trans y2
   ·simp only [Option.bind_some]
    unfold collect_mergeEntries_K1
    rw [e1,e2,chk_pos (by unfold slOk; simp only [List.length_append]; omega),Int.toNat_natCast,List.take_left]
 ·rintro k ⟨l1,n⟩ hk ⟨out,junk,e1,e2,e3,e4,e5,e6,e7,e8,e9⟩
  dsimp only at e1 e2 e4 e5 ⊢
  subst e2
  have hk' : k < l.length:=by omega
  have gk : l1[k]? = some l[k]:=by rw [e4 k (Nat.le_refl _),List.getElem?_eq_getElem hk']
  have ik : idx l1 (k : Int) = some l[k]:=by simp [idx,gk]
  have tk : l.take (k + 1) = l.take k++[l[k]]:=List.take_succ_eq_append_getElem hk'
  have hl1 : l1.length≤137438953472:=by omega
  unfold collect_mergeEntries_L2
  rw [ik,Option.bind_some]
  -- the way on with a new entry
  have app : Asc (out++[l[k]])→∃ s',((idx l1 (out.length : Int)).bind fun v=>some (Ctl.next (E:=List Rk × Bool) (List.set l1 (Int.toNat (out.length : Int)) l[k],IntKind.wrap .i64 ((out.length : Int) + 1)))) = some (.next s')∧∃ out junk : List Rk,s'.1 = out++junk∧s'.2 = (out.length : Int)∧out.length≤k + 1∧(∀ j,k + 1≤j→s'.1[j]? = l[j]?)∧s'.1.length = l.length∧Asc out∧(∀ x∈out,x∈l)∧(∀ x∈l.take (k + 1),∃ y∈out,Eqr y x)∧(∀ k',k + 1 = k' + 1→∃ o t,out = o++[t]∧∀ (hk : k' < l.length),t.gSeq = l[k'].gSeq):=by
   intro hA
   have hlen1:=congrArg List.length e1
   rw [List.length_append] at hlen1
   obtain ⟨j0,js,rfl⟩ : ∃ j0 js,junk = j0 :: js:=by
    cases junk with
    | nil=>simp at hlen1; omega
    | cons j0 js=>exact ⟨_,_,rfl⟩
   have gn : idx l1 (out.length : Int) = some j0:=by rw [e1]; exact idx_app _ _ _
   have w2 : IntKind.wrap .i64 ((out.length : Int) + 1) = ((out++[l[k]]).length : Int):=by
    rw [wrap_i64 (by omega) (by omega)]; simp
   have es : List.set l1 out.length l[k] = (out++[l[k]])++js:=by
    rw [e1,set_app]
    simp
   rw [gn,Option.bind_some,w2,Int.toNat_natCast,es]
   refine ⟨_,rfl,out++[l[k]],js,rfl,rfl,by simp; omega,fun j hj=>?_,by rw [← es,List.length_set]; exact e5,hA,fun x hx=>?_,fun x hx=>?_,fun k' hk1=>?_⟩
   ·rw [← es,List.getElem?_set,if_neg (by omega)]
    exact e4 j (by omega)
   ·rcases List.mem_append.1 hx with hx | hx
    ·exact e7 x hx
    ·rw [List.mem_singleton] at hx; subst hx; exact List.getElem_mem hk'
   ·rw [tk] at hx
    rcases List.mem_append.1 hx with hx | hx
    ·obtain ⟨y,y1,y2⟩ := e8 x hx
     exact ⟨y,List.mem_append_left _ y1,y2⟩
    ·rw [List.mem_singleton] at hx; subst hx
     exact ⟨_,List.mem_append_right _ (List.mem_singleton.2 rfl),Eqr.refl _⟩
   ·have : k' = k:=by omega
    subst this
    exact ⟨out,l[k'],rfl,fun _=>rfl⟩
  cases k with
  | zero=>
   have : out = []:=List.eq_nil_of_length_eq_zero (by omega)
   subst this
   refine .inl ?_
   have hd : decide ((0 : Int) < ((0 : Nat) : Int)) = false:=rfl
   simp only [hd,gb,Bool.false_and,Bool.false_eq_true,if_false,Option.bind_some]
   exact app (List.pairwise_singleton ..)
  | succ k=>
   obtain ⟨o,t,rfl,ht⟩ := e9 k rfl
   have ht:=ht (by omega)
   have hd : decide ((0 : Int) < ((k + 1 : Nat) : Int)) = true:=by simp only [decide_eq_true_eq]; omega
   have hn : ((o++[t]).length : Int) = (o.length : Int) + 1:=by simp
   have hlen1:=congrArg List.length e1
   rw [List.length_append] at hlen1
   have w1 : IntKind.wrap .i64 (((o++[t]).length : Int) - 1) = (o.length : Int):=by
    rw [wrap_i64 (by omega) (by omega)]; omega
   have gt : idx l1 (o.length : Int) = some t:=by rw [e1]; simp [idx]
   have tl : t∈l:=e7 t (by simp)
   have hle : t.gSeq≤l[k + 1].gSeq:=by rw [ht]; exact hsort k (k + 1) (by omega) hk' (by omega)
   rw [w1]
   simp only [hd,gb,if_true,gt,Option.bind_some,Bool.true_and]
   by_cases hs : t.gSeq = l[k + 1].gSeq
   ·have hb : (t.gSeq == l[k + 1].gSeq) = true:=by simpa using hs
    rw [if_pos hb,equal_eq (hfit t tl),Option.bind_some]
    by_cases hq : recEq (reOf t) (reOf l[k + 1]) = true
    ·refine .inl ⟨(l1,((o++[t]).length : Int)),by rw [hq]; rfl,o++[t],junk,e1,rfl,by omega,fun j hj=>e4 j (by omega),e5,e6,e7,fun x hx=>?_,fun k' hk1=>⟨o,t,rfl,fun h=>?_⟩⟩
     ·rw [tk] at hx
      rcases List.mem_append.1 hx with hx | hx
      ·exact e8 x hx
      ·rw [List.mem_singleton] at hx; subst hx
       exact ⟨t,by simp,hq⟩
     ·obtain rfl : k' = k + 1:=by omega
      exact hs
    ·refine .inr ⟨([],false),by rw [Bool.eq_false_iff.2 hq]; rfl,rfl,t,tl,l[k + 1],List.getElem_mem hk',hs,hq⟩
   ·have hb : ¬ (t.gSeq == l[k + 1].gSeq) = true:=by simpa using hs
    rw [if_neg hb]
    refine .inl (app (List.pairwise_append.2 ⟨e6,List.pairwise_singleton ..,fun x hx y hy=>?_⟩))
    rw [List.mem_singleton] at hy; subst hy
    have hlt : t.gSeq < l[k + 1].gSeq:=by omega
    rcases List.mem_append.1 hx with hx | hx
    ·have:=(List.pairwise_append.1 e6).2.2 x hx t (List.mem_singleton.2 rfl)
     omega
    ·rw [List.mem_singleton] at hx; subst hx; exact hlt
 ·rintro ⟨l1,n⟩ ⟨out,junk,e1,e2,e3,e4,e5,e6,e7,e8,e9⟩
  dsimp only at e1 e2 e5 ⊢
  refine ⟨out,junk,e1,e2,e6,e7,fun x hx=>e8 x ?_,e5⟩
  rw [Int.toNat_natCast,List.take_length]; exact hx
structure PW (p : CPart) : Prop where
 fits : ∀ r∈p.gentries,reFits r = true
 sp : ∀ s∈p.glost,spanOk s
 ne : p.gentries.length≤68719476736
 nl : p.glost.length≤68719476736
 tot : 0≤p.gtotal∧(p.gknown = false→p.gtotal = 0)
def both (p o : CPart) : List Rk:=p.gentries++o.gentries
def totB (p o : CPart) : Int:=if o.gtotal > p.gtotal then o.gtotal else p.gtotal
def knoB (p o : CPart) : Bool:=p.gknown || o.gknown
structure Fit2 (p o : CPart) : Prop where
 tot : p.gknown = true→o.gknown = true→p.gtotal = o.gtotal
 one : ∀ x∈both p o,∀ y∈both p o,x.gSeq = y.gSeq→Eqr x y
 most : ∀ x∈both p o,x.gSeq < 18446744073709551615
 ent : knoB p o = true→∀ x∈both p o,x.gSeq < totB p o
 lost : knoB p o = true→∀ x,(inS p.glost x∨inS o.glost x)→x < totB p o
def part0 : CPart:=CPart.mk [] [] false 0
theorem can_last {l : List CSpan} (h : Can l) (hn : 0 < l.length) : ∀ s∈l,s.gto≤(l[l.length - 1]'(by omega)).gto:=by
 intro s hs
 obtain ⟨i,hi,rfl⟩ := List.getElem_of_mem hs
 by_cases e : i = l.length - 1
 ·subst e; exact Int.le_refl _
 ·have h1:=List.pairwise_iff_getElem.1 h.1 i (l.length - 1) hi (by omega) (by omega)
  have h2:=h.2 _ (List.getElem_mem (show l.length - 1 < l.length by omega))
  omega
theorem asc_last {l : List Rk} (h : Asc l) (hn : 0 < l.length) : ∀ s∈l,s.gSeq≤(l[l.length - 1]'(by omega)).gSeq:=by
 intro s hs
 obtain ⟨i,hi,rfl⟩ := List.getElem_of_mem hs
 exact h.le (by omega) (by omega)
structure Merged (p o m : CPart) : Prop where
 kno : m.gknown = knoB p o
 tot : m.gtotal = totB p o
 asc : Asc m.gentries
 sub : ∀ x∈m.gentries,x∈both p o
 cov : ∀ x∈both p o,∃ y∈m.gentries,Eqr y x
 can : Can m.glost
 lost : ∀ x,inS m.glost x↔(inS p.glost x∨inS o.glost x)∧¬ hasN m.gentries x
 sp : ∀ s∈m.glost,spanOk s
 ne : m.gentries.length≤p.gentries.length + o.gentries.length
 nl : m.glost.length≤p.glost.length + o.glost.length + m.gentries.length
theorem merge_spec (p o : CPart) (hp : PW p) (ho : PW o) : (¬ Fit2 p o∧CPart_merge p o = some (part0,false))∨(Fit2 p o∧∃ m,CPart_merge p o = some (m,true)∧Merged p o m):=by
 have hfit : ∀ r∈p.gentries++o.gentries,reFits r = true:=fun r hr=>by
  rcases List.mem_append.1 hr with h | h
  ·exact hp.fits r h
  ·exact ho.fits r h
 have hpe:=hp.ne
 have hoe:=ho.ne
 have hpl:=hp.nl
 have hol:=ho.nl
 unfold CPart_merge
 by_cases c1 : p.gknown = true∧o.gknown = true∧p.gtotal≠o.gtotal
 ·rw [if_pos (by simp [c1.1,c1.2.1,c1.2.2])]
  exact .inl ⟨fun h=>c1.2.2 (h.tot c1.1 c1.2.1),rfl⟩
 ·have c1' : ¬ ((p.gknown && o.gknown) && (p.gtotal != o.gtotal)) = true:=by
   intro h
   simp only [Bool.and_eq_true,bne_iff_ne] at h
   exact c1 ⟨h.1.1,h.1.2,h.2⟩
  rw [if_neg c1']
  have ftot : p.gknown = true→o.gknown = true→p.gtotal = o.gtotal:=fun h1 h2=>by
   refine Classical.byContradiction fun h3=>c1 ⟨h1,h2,h3⟩
  rcases mergeEntries_spec p.gentries o.gentries (by omega) hfit with ⟨⟨x,hx,y,hy,h1,h2⟩,h3⟩ | ⟨h1,l,h3,h4,h5,h6,h7⟩
  ·rw [h3]
   refine .inl ⟨fun h=>h2 (h.one x hx y hy h1),rfl⟩
  ·rw [h3,Option.bind_some]
   simp only [Bool.not_true,Bool.false_eq_true,if_false]
   -- the rest,when no entry stands in the way
   have rest : (∀ x∈l,x.gSeq < 18446744073709551615)→(knoB p o = true→∀ x∈l,x.gSeq < totB p o)→(¬ Fit2 p o∧CPart_merge_K1 p o (l,true) = some (part0,false))∨(Fit2 p o∧∃ m,CPart_merge_K1 p o (l,true) = some (m,true)∧Merged p o m):=by
    intro r1 r2
    have r1' : ∀ x∈both p o,x.gSeq < 18446744073709551615:=fun x hx=>by
     obtain ⟨y,y1,y2⟩ := h6 x hx
     rw [← y2.seq]; exact r1 y y1
    have r2' : knoB p o = true→∀ x∈both p o,x.gSeq < totB p o:=fun hk x hx=>by
     obtain ⟨y,y1,y2⟩ := h6 x hx
     rw [← y2.seq]; exact r2 hk y y1
    unfold CPart_merge_K1
    obtain ⟨s,s1,s2,s3,s4,s5⟩ := mergeSpans_spec p.glost o.glost (by omega) hp.sp ho.sp
    rw [s1,Option.bind_some]
    have seqs : ∀ r∈l,seqOk r:=fun r hr=>⟨(fits_seq (hfit r (h5 r hr))).1,r1 r hr⟩
    obtain ⟨w,w1,w2,w3,w4,w5⟩ := without_spec s l s2 s4 h4 seqs (by omega) (by omega)
    have good : (knoB p o = true→∀ x,(inS p.glost x∨inS o.glost x)→x < totB p o)→(Fit2 p o∧∃ m,(collect_without s l).bind (fun v12=>some ((CPart.mk l v12 (p.gknown || o.gknown) (if o.gtotal > p.gtotal then o.gtotal else p.gtotal)),true)) = some (m,true)∧Merged p o m):=fun hlost=>by
     refine ⟨⟨ftot,h1,r1',r2',hlost⟩,CPart.mk l w (p.gknown || o.gknown) (if o.gtotal > p.gtotal then o.gtotal else p.gtotal),by rw [w1]; rfl,⟨rfl,rfl,h4,h5,h6,w2,fun x=>?_,w4,h7,by (try dsimp only); omega⟩⟩
     dsimp only
     rw [w3,s3]
    by_cases c2 : 0 < s.length∧knoB p o = true
    ·obtain ⟨c2,c3⟩ := c2
     have hd : decide ((0 : Int) < (s.length : Int)) = true:=by simp only [decide_eq_true_eq]; omega
     have hk : (p.gknown || o.gknown) = true:=c3
     have wl : IntKind.wrap .i64 ((s.length : Int) - 1) = ((s.length - 1 : Nat) : Int):=by rw [wrap_i64 (by omega) (by omega)]; omega
     rw [wl,idx_lt (show s.length - 1 < s.length by omega)]
     simp only [hd,hk,Bool.and_self,gb,if_true,Option.bind_some,Bool.true_and]
     by_cases c4 : totB p o < (s[s.length - 1]'(by omega)).gto
     ·rw [if_pos (by simpa [totB] using c4)]
      refine .inl ⟨fun h=>?_,rfl⟩
      have hm:=s2.2 _ (List.getElem_mem (show s.length - 1 < s.length by omega))
      have:=h.lost c3 ((s[s.length - 1]'(by omega)).gto - 1) ((s3 _).1 ⟨_,List.getElem_mem (show s.length - 1 < s.length by omega),by omega,by omega⟩)
      omega
     ·rw [if_neg (by simpa [totB] using c4)]
      have:=good fun _ x hx=>by
       obtain ⟨t,t1,t2,t3⟩ := (s3 x).2 hx
       have:=can_last s2 c2 t t1
       omega
      simp only [hk] at this
      exact .inr this
    ·have hneg : ((decide ((0 : Int) < (s.length : Int))) && (p.gknown || o.gknown)) = false:=by
      rw [Bool.eq_false_iff]
      intro h
      simp only [Bool.and_eq_true,decide_eq_true_eq] at h
      exact c2 ⟨by omega,h.2⟩
     rw [hneg]
     simp only [gb,Bool.false_eq_true,if_false,Option.bind_some,Bool.false_and]
     refine .inr (good fun hk x hx=>?_)
     obtain ⟨t,t1,_⟩ := (s3 x).2 hx
     exact absurd ⟨List.length_pos_of_mem t1,hk⟩ c2
   by_cases c2 : 0 < l.length
   ·have hd : decide ((0 : Int) < (l.length : Int)) = true:=by simp only [decide_eq_true_eq]; omega
    have wl : IntKind.wrap .i64 ((l.length : Int) - 1) = ((l.length - 1 : Nat) : Int):=by rw [wrap_i64 (by omega) (by omega)]; omega
    rw [hd,if_pos rfl,wl,idx_lt (show l.length - 1 < l.length by omega),Option.bind_some]
    have lm:=List.getElem_mem (show l.length - 1 < l.length by omega)
    have fl:=fits_seq (hfit _ (h5 _ lm))
    by_cases c3 : (l[l.length - 1]'(by omega)).gSeq = 18446744073709551615∨(knoB p o = true∧totB p o≤(l[l.length - 1]'(by omega)).gSeq)
    ·rw [if_pos (by simpa [totB,knoB] using c3)]
     refine .inl ⟨fun h=>?_,rfl⟩
     rcases c3 with c3 | ⟨c3,c4⟩
     ·have:=h.most _ (h5 _ lm); omega
     ·have:=h.ent c3 _ (h5 _ lm); omega
    ·rw [if_neg (by simpa [totB,knoB] using c3)]
     have al:=asc_last h4 c2
     refine rest (fun x hx=>?_) (fun hk x hx=>?_)
     ·have:=al x hx
      have : (l[l.length - 1]'(by omega)).gSeq≠18446744073709551615:=fun h=>c3 (.inl h)
      omega
     ·have:=al x hx
      have : ¬ totB p o≤(l[l.length - 1]'(by omega)).gSeq:=fun h=>c3 (.inr ⟨hk,h⟩)
      omega
   ·have hd : decide ((0 : Int) < (l.length : Int)) = false:=by simp only [decide_eq_false_iff_not]; omega
    rw [hd]
    simp only [Bool.false_eq_true,if_false]
    have : l = []:=List.eq_nil_of_length_eq_zero (by omega)
    subst this
    exact rest (fun x hx=>(by cases hx)) (fun _ x hx=>(by cases hx))
theorem fits_args {x : Rk} (h : reFits x = true) : x.gEvent.gArgs.length≤1099511627776:=(reFits_T h).2
theorem clone_eq {x : Rk} (h : reFits x = true) : collect_clone x = some x:=by
 unfold collect_clone slices_Clone_int64_int64
 have:=fits_args h
 rw [chk_pos (by simp only [apOk,List.length_nil,Nat.zero_add]; omega)]
 rfl
theorem cloneAll_eq (l : List Rk) (hl : l.length≤137438953472) (hf : ∀ r∈l,reFits r = true) : collect_cloneAll l = some l:=by
 unfold collect_cloneAll
 rw [foldM_spec (s0:=([] : List Rk)) l.length (fun j=>l.take j) (by simp) rfl (by omega) (fun j hj=>?_)]
 ·simp [collect_cloneAll_K1]
 ·unfold collect_cloneAll_L2
  rw [idx_lt hj,Option.bind_some,clone_eq (hf _ (List.getElem_mem hj)),Option.bind_some,chk_pos (by simp [apOk]; omega),List.take_succ_eq_append_getElem hj]
def entsOf (l : List Rk) : List Rk:=l.filter fun r=>r.gWhat == 1
def spanOf (r : Rk) : CSpan := ⟨r.gSeq,r.gSeq + r.gCount⟩
def lostOf (l : List Rk) : List CSpan:=(l.filter fun r=>r.gWhat == 2).map spanOf
def endOf : List Rk→Bool × Int
 | []=>(false,0)
 | r :: l=>if r.gWhat == 3 then (true,r.gSeq) else endOf l
def partFit (l : List Rk) (c : Int) : Prop:=(∀ r∈l,r.gComponent = c)∧∀ r∈l,∀ q∈l,r.gWhat = 3→q.gWhat = 3→r.gSeq = q.gSeq
def partRaw (l : List Rk) : CPart := ⟨entsOf l,lostOf l,(endOf l).1,(endOf l).2⟩
structure RecOk (r : Rk) : Prop where
 fits : reFits r = true
 lost : r.gWhat = 2→0 < r.gCount∧r.gSeq + r.gCount≤18446744073709551615
theorem endOf_some : ∀ {l : List Rk} {r : Rk},r∈l→r.gWhat = 3→(∀ r∈l,∀ q∈l,r.gWhat = 3→q.gWhat = 3→r.gSeq = q.gSeq)→endOf l = (true,r.gSeq)
 | q :: l,r,h,h3,hs=>by
  unfold endOf
  by_cases hq : q.gWhat = 3
  ·rw [if_pos (by simpa using hq),hs q (List.mem_cons_self ..) r h hq h3]
  ·rw [if_neg (by simpa using hq)]
   rcases List.mem_cons.1 h with rfl | h
   ·exact absurd h3 hq
   ·exact endOf_some h h3 fun a ha b hb=>hs a (List.mem_cons_of_mem _ ha) b (List.mem_cons_of_mem _ hb)
theorem endOf_none : ∀ {l : List Rk},(∀ r∈l,r.gWhat≠3)→endOf l = (false,0)
 | [],_=>rfl
 | q :: l,h=>by
  unfold endOf
  rw [if_neg (by simpa using h q (List.mem_cons_self ..))]
  exact endOf_none fun r hr=>h r (List.mem_cons_of_mem _ hr)
theorem partOf_spec (l : List Rk) (c : Int) (hl : l.length≤68719476736) (hf : ∀ r∈l,RecOk r) : (¬ partFit l c∧CPartOf l c = some (part0,false))∨(partFit l c∧CPartOf l c = some (partRaw l,true)):=by
 unfold CPartOf
 have hInd:=forM_ind (S:=(List Rk) × (List CSpan) × Bool × Int) (E:=CPart × Bool) (mx:=9223372036854775807) (n:=(List.length l : Int)) (body:=fun k6 s=>CPartOf_L2 l c k6 s.1 s.2.1 s.2.2.1 s.2.2.2) (s0:=(([] : List Rk),([] : List CSpan),false,0))
  (fun k s=>s = (entsOf (l.take k),lostOf (l.take k),(endOf (l.take k)).1,(endOf (l.take k)).2)∧partFit (l.take k) c)
  (fun t=>match t with
   | .next s=>s = (entsOf l,lostOf l,(endOf l).1,(endOf l).2)∧partFit l c
   | .done r=>r = (part0,false)∧¬ partFit l c)
  (by omega) (by omega) ⟨rfl,fun r hr=>by simp at hr,fun r hr=>by simp at hr⟩ ?_ ?_
 ·obtain ⟨t,k1,k2⟩ := hInd
  rw [k1]
  cases t with
  | next s=>obtain ⟨rfl,h⟩ := k2; exact .inr ⟨h,rfl⟩
  | done r=>obtain ⟨rfl,h⟩ := k2; exact .inl ⟨h,rfl⟩
 ·rintro k s hk ⟨rfl,hP⟩
  have hk' : k < l.length:=by omega
  have tk : l.take (k + 1) = l.take k++[l[k]]:=List.take_succ_eq_append_getElem hk'
  have hm:=List.getElem_mem hk'
  have hr:=hf _ hm
  have hlt : (l.take k).length = k:=by simp; omega
  dsimp only
  unfold CPartOf_L2
  rw [idx_lt hk',Option.bind_some]
  rw [tk]
  generalize hv : l[k] = v at hm hr ⊢
  have e1 : entsOf (l.take k++[v]) = if v.gWhat == 1 then entsOf (l.take k)++[v] else entsOf (l.take k):=by
   unfold entsOf; rw [List.filter_append,List.filter_cons]
   split <;> simp_all
  have e2 : lostOf (l.take k++[v]) = if v.gWhat == 2 then lostOf (l.take k)++[spanOf v] else lostOf (l.take k):=by
   unfold lostOf; rw [List.filter_append,List.filter_cons]
   split <;> simp_all
  have nl : (entsOf (l.take k)).length≤k:=by have:=List.length_filter_le (fun r : Rk=>r.gWhat == 1) (l.take k); unfold entsOf; omega
  have nl2 : (lostOf (l.take k)).length≤k:=by have:=List.length_filter_le (fun r : Rk=>r.gWhat == 2) (l.take k); unfold lostOf; rw [List.length_map]; omega
  have fitNo : ∀ r∈l.take k,r∈l:=fun r hr=>List.mem_of_mem_take hr
  by_cases hc : v.gComponent = c
  ·have hcb : ¬ (v.gComponent != c) = true:=by simpa using hc
   rw [if_neg hcb]
   have fitc : ∀ r∈l.take k++[v],r.gComponent = c:=fun r hr=>by
    rcases List.mem_append.1 hr with h | h
    ·exact hP.1 r h
    ·rw [List.mem_singleton] at h; subst h; exact hc
   -- when the record is no end,ends are as they were
   have endn : v.gWhat≠3→endOf (l.take k++[v]) = endOf (l.take k)∧partFit (l.take k++[v]) c:=fun h3=>by
    refine ⟨?_,fitc,fun r hr q hq r3 q3=>?_⟩
    ·generalize l.take k = m
     induction m with
     | nil=>simp [endOf,h3]
     | cons x m ih=>simp only [List.cons_append,endOf,ih]
    ·have : ∀ r∈l.take k++[v],r.gWhat = 3→r∈l.take k:=fun r hr r3=>by
      rcases List.mem_append.1 hr with h | h
      ·exact h
      ·rw [List.mem_singleton] at h; subst h; exact absurd r3 h3
     exact hP.2 r (this r hr r3) q (this q hq q3) r3 q3
   by_cases h1 : v.gWhat = 1
   ·have b1 : (v.gWhat == 1) = true:=by simpa using h1
    obtain ⟨en,ef⟩ := endn (by omega)
    rw [if_pos b1,clone_eq hr.fits,Option.bind_some,chk_pos (by simp [apOk]; omega)]
    refine .inl ⟨_,rfl,?_,ef⟩
    rw [e1,e2,en,if_pos b1,if_neg (by simp [h1])]
   ·have b1 : ¬ (v.gWhat == 1) = true:=by simpa using h1
    rw [if_neg b1]
    by_cases h2 : v.gWhat = 2
    ·have b2 : (v.gWhat == 2) = true:=by simpa using h2
     obtain ⟨en,ef⟩ := endn (by omega)
     have hw : IntKind.wrap .u64 (v.gSeq + v.gCount) = v.gSeq + v.gCount:=by
      have:=fits_seq hr.fits
      have:=hr.lost h2
      exact wrap_u64 (by omega) (by omega)
     rw [if_pos b2,chk_pos (by simp [apOk]; omega),hw]
     refine .inl ⟨_,rfl,?_,ef⟩
     rw [e1,e2,en,if_neg b1,if_pos b2]
     rfl
    ·have b2 : ¬ (v.gWhat == 2) = true:=by simpa using h2
     rw [if_neg b2]
     by_cases h3 : v.gWhat = 3
     ·have b3 : (v.gWhat == 3) = true:=by simpa using h3
      rw [if_pos b3]
      by_cases hbad : ∃ r∈l.take k,r.gWhat = 3∧r.gSeq≠v.gSeq
      ·obtain ⟨r,r1,r2,r3⟩ := hbad
       have he:=endOf_some r1 r2 hP.2
       rw [he]
       rw [if_pos (by simpa using r3)]
       refine .inr ⟨_,rfl,rfl,fun h=>r3 (h.2 r (fitNo r r1) v hm r2 h3)⟩
      ·have hgood : ∀ r∈l.take k,r.gWhat = 3→r.gSeq = v.gSeq:=fun r r1 r2=>Classical.byContradiction fun r3=>hbad ⟨r,r1,r2,r3⟩
       have hfit : ∀ r∈l.take k++[v],∀ q∈l.take k++[v],r.gWhat = 3→q.gWhat = 3→r.gSeq = q.gSeq:=fun r r1 q q1 r3 q3=>by
        have : ∀ r∈l.take k++[v],r.gWhat = 3→r.gSeq = v.gSeq:=fun r hr r3=>by
         rcases List.mem_append.1 hr with h | h
         ·exact hgood r h r3
         ·rw [List.mem_singleton] at h; subst h; rfl
        rw [this r r1 r3,this q q1 q3]
       have hend:=endOf_some (l:=l.take k++[v]) (r:=v) (by simp) h3 hfit
       have hno : ¬ (((endOf (l.take k)).1 && ((endOf (l.take k)).2 != v.gSeq)) = true):=by
        by_cases hex : ∃ r∈l.take k,r.gWhat = 3
        ·obtain ⟨r,r1,r2⟩ := hex
         rw [endOf_some r1 r2 hP.2,hgood r r1 r2]; simp
        ·rw [endOf_none fun r hr h=>hex ⟨r,hr,h⟩]; simp
       rw [if_neg hno]
       refine .inl ⟨_,rfl,?_,fitc,hfit⟩
       rw [e1,e2,hend,if_neg b1,if_neg b2]
     ·have b3 : ¬ (v.gWhat == 3) = true:=by simpa using h3
      obtain ⟨en,ef⟩ := endn h3
      rw [if_neg b3]
      refine .inl ⟨_,rfl,?_,ef⟩
      rw [e1,e2,en,if_neg b1,if_neg b2]
  ·have hcb : (v.gComponent != c) = true:=by simpa using hc
   rw [if_pos hcb]
   exact .inr ⟨_,rfl,rfl,fun h=>hc (h.1 v hm)⟩
 ·rintro s ⟨rfl,hP⟩
  rw [Int.toNat_natCast,List.take_length] at *
  exact ⟨rfl,hP⟩
theorem partRaw_W {l : List Rk} (hl : l.length≤68719476736) (hf : ∀ r∈l,RecOk r) : PW (partRaw l):=by
 refine ⟨fun r hr=>(hf r (List.mem_filter.1 hr).1).fits,fun s hs=>?_,?_,?_,?_⟩
 ·obtain ⟨r,hr,rfl⟩ := List.mem_map.1 hs
  have h1:=List.mem_filter.1 hr
  have:=(hf r h1.1).lost (by simpa using h1.2)
  have:=fits_seq (hf r h1.1).fits
  exact ⟨by simp only [spanOf]; omega,by simp only [spanOf]; omega,by simp only [spanOf]; omega⟩
 ·have:=List.length_filter_le (fun r : Rk=>r.gWhat == 1) l; simp only [partRaw,entsOf]; omega
 ·have:=List.length_filter_le (fun r : Rk=>r.gWhat == 2) l; simp only [partRaw,lostOf,List.length_map]; omega
 ·have : ∀ l : List Rk,(∀ r∈l,RecOk r)→0≤(endOf l).2∧((endOf l).1 = false→(endOf l).2 = 0):=by
   intro l
   induction l with
   | nil=>intro _; exact ⟨Int.le_refl _,fun _=>rfl⟩
   | cons q l ih=>
    intro h
    unfold endOf
    split
    ·exact ⟨(fits_seq (h q (List.mem_cons_self ..)).fits).1,fun h=>(by cases h)⟩
    ·exact ih fun r hr=>h r (List.mem_cons_of_mem _ hr)
  exact this l hf
def pairOf (s : CSpan) : Nat→Int:=arr 0 [s.gfrom,s.gto - s.gfrom]
theorem pairs_eq (l : List CSpan) (hl : l.length≤1099511627776) (hs : ∀ s∈l,spanOk s) : collect_pairs l = some (l.map pairOf):=by
 unfold collect_pairs
 rw [foldM_spec (s0:=([] : List (Nat→Int))) l.length (fun j=>(l.take j).map pairOf) (by simp) rfl (by omega) (fun j hj=>?_)]
 ·simp [collect_pairs_K1]
 ·unfold collect_pairs_L2
  obtain ⟨q1,q2,q3⟩ := hs _ (List.getElem_mem hj)
  have hw : IntKind.wrap .u64 (l[j].gto - l[j].gfrom) = l[j].gto - l[j].gfrom:=wrap_u64 (by omega) (by omega)
  rw [idx_lt hj,Option.bind_some,chk_pos (by simp [apOk]; omega),List.take_succ_eq_append_getElem hj,List.map_append,hw]
  rfl
theorem end_spec (p : CPart) (ha : Asc p.gentries) (hf : ∀ r∈p.gentries,seqOk r) (hc : Can p.glost) (hs : ∀ s∈p.glost,spanOk s) (ne : p.gentries.length≤1099511627776) (nl : p.glost.length≤1099511627776) : ∃ e,CPart_end p = some e∧(p.gknown = true→e = p.gtotal)∧(p.gknown = false→0≤e∧e≤18446744073709551615∧(∀ r∈p.gentries,r.gSeq < e)∧(∀ x,inS p.glost x→x < e)∧(0 < e→hasN p.gentries (e - 1)∨inS p.glost (e - 1))):=by
 unfold CPart_end
 by_cases hk : p.gknown = true
 ·rw [if_pos hk]
  exact ⟨_,rfl,fun _=>rfl,fun h=>by rw [hk] at h; cases h⟩
 ·rw [if_neg hk]
  have rest : ∀ e0 : Int,0≤e0→e0≤18446744073709551615→(∀ r∈p.gentries,r.gSeq < e0)→(0 < e0→hasN p.gentries (e0 - 1))→∃ e,CPart_end_K1 p e0 = some e∧(p.gknown = true→e = p.gtotal)∧(p.gknown = false→0≤e∧e≤18446744073709551615∧(∀ r∈p.gentries,r.gSeq < e)∧(∀ x,inS p.glost x→x < e)∧(0 < e→hasN p.gentries (e - 1)∨inS p.glost (e - 1))):=by
   intro e0 h0 h1 h2 h3
   unfold CPart_end_K1
   by_cases hl : 0 < p.glost.length
   ·have hd : decide ((0 : Int) < (p.glost.length : Int)) = true:=by simp only [decide_eq_true_eq]; omega
    have wl : IntKind.wrap .i64 ((p.glost.length : Int) - 1) = ((p.glost.length - 1 : Nat) : Int):=by rw [wrap_i64 (by omega) (by omega)]; omega
    rw [hd,if_pos rfl,wl,idx_lt (show p.glost.length - 1 < p.glost.length by omega),Option.bind_some]
    have cl:=can_last hc hl
    have lm:=List.getElem_mem (show p.glost.length - 1 < p.glost.length by omega)
    generalize p.glost[p.glost.length - 1]'(by omega) = t at cl lm
    have ht:=hs t lm
    have ht1:=ht.1
    have ht2:=ht.2.1
    have ht3:=ht.2.2
    generalize hE : (if t.gto > e0 then t.gto else e0) = E
    have hE1 : t.gto≤E∧e0≤E∧(E = t.gto∨(E = e0)):=by rw [← hE]; split <;> omega
    refine ⟨E,rfl,fun h=>absurd h hk,fun _=>⟨by omega,by omega,fun r hr=>by have:=h2 r hr; omega,fun x ⟨s,s1,s2,s3⟩=>by have:=cl s s1; omega,fun hpos=>?_⟩⟩
    rcases hE1.2.2 with h | h
    ·exact .inr ⟨t,lm,by omega,by omega⟩
    ·rw [h]; exact .inl (h3 (by omega))
   ·have hd : decide ((0 : Int) < (p.glost.length : Int)) = false:=by simp only [decide_eq_false_iff_not]; omega
    rw [hd]
    have : p.glost = []:=List.eq_nil_of_length_eq_zero (by omega)
    exact ⟨e0,rfl,fun h=>absurd h hk,fun _=>⟨h0,h1,h2,fun x hx=>absurd (by rw [this] at hx; exact hx) (inS_nil x),fun hpos=>.inl (h3 hpos)⟩⟩
  by_cases hl : 0 < p.gentries.length
  ·have hd : decide ((0 : Int) < (p.gentries.length : Int)) = true:=by simp only [decide_eq_true_eq]; omega
   have wl : IntKind.wrap .i64 ((p.gentries.length : Int) - 1) = ((p.gentries.length - 1 : Nat) : Int):=by rw [wrap_i64 (by omega) (by omega)]; omega
   rw [hd,if_pos rfl,wl,idx_lt (show p.gentries.length - 1 < p.gentries.length by omega),Option.bind_some]
   have al:=asc_last ha hl
   have lm:=List.getElem_mem (show p.gentries.length - 1 < p.gentries.length by omega)
   generalize p.gentries[p.gentries.length - 1]'(by omega) = t at al lm
   have ht:=hf t lm
   have ht1:=ht.1
   have ht2:=ht.2
   rw [wrap_u64 (by omega) (by omega)]
   exact rest _ (by omega) (by omega) (fun r hr=>by have:=al r hr; omega) fun _=>⟨t,lm,by omega⟩
  ·have hd : decide ((0 : Int) < (p.gentries.length : Int)) = false:=by simp only [decide_eq_false_iff_not]; omega
   rw [hd]
   have : p.gentries = []:=List.eq_nil_of_length_eq_zero (by omega)
   exact rest 0 (Int.le_refl _) (by omega) (fun r hr=>by rw [this] at hr; cases hr) fun h=>absurd h (Int.lt_irrefl _)
theorem missing_spec (p : CPart) (ha : Asc p.gentries) (hf : ∀ r∈p.gentries,seqOk r) (hc : Can p.glost) (hs : ∀ s∈p.glost,spanOk s) (ne : p.gentries.length≤549755813888) (nl : p.glost.length≤1099511627776) (ht : 0≤p.gtotal∧p.gtotal≤18446744073709551615) : ∃ e l,CPart_end p = some e∧CPart_missing p = some l∧Can l∧(∀ s∈l,spanOk s)∧(∀ x,inS l x↔(0≤x∧x < e)∧¬ hasN p.gentries x)∧l.length≤1 + p.gentries.length:=by
 obtain ⟨e,h1,h2,h3⟩ := end_spec p ha hf hc hs (by omega) nl
 have he : 0≤e∧e≤18446744073709551615:=by
  cases hk : p.gknown with
  | true=>rw [h2 hk]; exact ht
  | false=>exact ⟨(h3 hk).1,(h3 hk).2.1⟩
 unfold CPart_missing
 rw [h1,Option.bind_some]
 by_cases h0 : e = 0
 ·rw [if_pos (by simpa using h0)]
  exact ⟨e,[],rfl,rfl,⟨List.Pairwise.nil,fun s hs=>(by cases hs)⟩,fun s hs=>(by cases hs),fun x=>⟨fun h=>absurd h (inS_nil x),fun h=>by omega⟩,Nat.zero_le _⟩
 ·rw [if_neg (by simpa using h0),Option.bind_some]
  have hsp : ∀ s∈[(CSpan.mk 0 e)],spanOk s:=fun s hs=>by
   rw [List.mem_singleton] at hs; subst hs; exact ⟨Int.le_refl _,by (try dsimp only); omega,he.2⟩
  obtain ⟨o,w1,w2,w3,w4,w5⟩ := without_spec [(CSpan.mk 0 e)] p.gentries ⟨List.pairwise_singleton ..,fun s hs=>(hsp s hs).2.1⟩ hsp ha hf (by simp) (by omega)
  rw [w1]
  refine ⟨e,o,rfl,rfl,w2,w4,fun x=>?_,by simpa using w5⟩
  rw [w3,inS_one]
abbrev Kn:=e30_Known
theorem inA48 {k : Nat} (h : k < 48) : inA 48 (k : Int) := ⟨by omega,by omega⟩
theorem runs_spec (S : Nat→Bool) : ∃ l : List CSpan,e30_runs S = some (l.map pairOf)∧Can l∧(∀ s∈l,spanOk s)∧(∀ x,inS l x↔∃ s : Nat,s < 48∧x = (s : Int)∧S s = true)∧l.length≤48:=by
 unfold e30_runs
 have hInd:=foldM_ind (S:=List (Nat→Int)) (mx:=9223372036854775807) (n:=48) (body:=fun k2 s=>e30_runs_L2 S k2 s) (s0:=([] : List (Nat→Int)))
  (fun k a=>∃ l : List CSpan,a = l.map pairOf∧Can l∧(∀ s∈l,spanOk s)∧(∀ x,inS l x↔∃ s : Nat,s < k∧x = (s : Int)∧S s = true)∧l.length≤k∧(∀ s∈l,s.gto≤(k : Int))∧(∀ j,k = j + 1→S j = true→∃ o t,l = o++[t]∧t.gto = (k : Int)))
  (by decide) (by decide) ⟨[],rfl,⟨List.Pairwise.nil,fun s hs=>(by cases hs)⟩,fun s hs=>(by cases hs),fun x=>⟨fun h=>absurd h (inS_nil x),fun ⟨s,h,_⟩=>by omega⟩,Nat.le_refl _,fun s hs=>(by cases hs),fun j h=>by omega⟩ ?_
 ·obtain ⟨a,h1,l,rfl,h2,h3,h4,h5,h6,h7⟩ := hInd
  rw [h1,Option.bind_some]
  exact ⟨l,rfl,h2,h3,h4,h5⟩
 ·rintro k a hk ⟨l,rfl,h2,h3,h4,h5,h6,h7⟩
  have hk' : k < 48:=by omega
  unfold e30_runs_L2
  rw [chk_pos (inA48 hk'),Int.toNat_natCast]
  by_cases hS : S k = true
  ·have hn : ¬ (!(S k)) = true:=by simp [hS]
   rw [if_neg hn]
   by_cases h0 : 0 < k∧S (k - 1) = true
   ·have hd : decide ((0 : Int) < (k : Int)) = true:=by simp only [decide_eq_true_eq]; omega
    have w1 : IntKind.wrap .i64 ((k : Int) - 1) = ((k - 1 : Nat) : Int):=by rw [wrap_i64 (by omega) (by omega)]; omega
    rw [w1,chk_pos (fun _=>inA48 (by omega)),Int.toNat_natCast,hd,h0.2]
    simp only [Bool.and_self,if_true]
    obtain ⟨o,t,rfl,ht⟩ := h7 (k - 1) (by omega) h0.2
    have tok:=h3 t (by simp)
    have w2 : IntKind.wrap .i64 ((((o++[t]).map pairOf).length : Int) - 1) = (o.length : Int):=by
     simp only [List.length_map,List.length_append,List.length_singleton] at h5 ⊢
     rw [wrap_i64 (by omega) (by omega)]; omega
    have gt : idx ((o++[t]).map pairOf) (o.length : Int) = some (pairOf t):=by simp [idx]
    rw [w2,gt]
    simp only [Option.bind_some,Int.toNat_natCast]
    obtain ⟨c1,c2,c3⟩ := h2.init
    have w3 : IntKind.wrap .u64 (pairOf t 1 + 1) = (k : Int) + 1 - t.gfrom:=by
     have e : pairOf t 1 = t.gto - t.gfrom:=rfl
     rw [e,ht,wrap_u64 (by have:=tok.1; omega) (by have:=tok.1; omega)]; omega
    have es : List.set ((o++[t]).map pairOf) o.length (arr 0 [pairOf t 0,IntKind.wrap .u64 (pairOf t 1 + 1)]) = (o++[CSpan.mk t.gfrom ((k : Int) + 1)]).map pairOf:=by
     rw [w3,List.map_append,List.map_append,List.set_append_right _ _ (by simp)]
     simp [pairOf,arr]
    rw [es]
    refine ⟨_,rfl,o++[CSpan.mk t.gfrom ((k : Int) + 1)],rfl,c1.snoc c2 (by (try dsimp only); omega),fun s hs=>?_,fun x=>?_,by simp at h5 ⊢; omega,fun s hs=>?_,fun j hj hSj=>⟨o,_,rfl,by push_cast; rfl⟩⟩
    ·rcases List.mem_append.1 hs with hs | hs
     ·exact h3 s (List.mem_append_left _ hs)
     ·rw [List.mem_singleton] at hs; subst hs
      exact ⟨tok.1,by (try dsimp only); omega,by (try dsimp only); omega⟩
    ·have hx:=h4 x
     rw [inS_app,inS_one] at hx
     rw [inS_app,inS_one]
     dsimp only
     constructor
     ·rintro (h | h)
      ·obtain ⟨s,s1,s2,s3⟩ := hx.1 (.inl h)
       exact ⟨s,by omega,s2,s3⟩
      ·by_cases hxk : x < (k : Int)
       ·obtain ⟨s,s1,s2,s3⟩ := hx.1 (.inr ⟨h.1,by omega⟩)
        exact ⟨s,by omega,s2,s3⟩
       ·exact ⟨k,by omega,by omega,hS⟩
     ·rintro ⟨s,s1,s2,s3⟩
      by_cases hsk : s = k
      ·exact .inr ⟨by omega,by omega⟩
      ·rcases hx.2 ⟨s,by omega,s2,s3⟩ with h | h
       ·exact .inl h
       ·exact .inr ⟨h.1,by omega⟩
    ·push_cast
     rcases List.mem_append.1 hs with hs | hs
     ·have:=h6 s (List.mem_append_left _ hs); omega
     ·rw [List.mem_singleton] at hs; subst hs; exact Int.le_refl _
   ·have hd : ((decide ((0 : Int) < (k : Int))) && (S (Int.toNat (IntKind.wrap .i64 ((k : Int) - 1))))) = false:=by
     rw [Bool.eq_false_iff]
     intro h
     simp only [Bool.and_eq_true,decide_eq_true_eq] at h
     have w1 : IntKind.wrap .i64 ((k : Int) - 1) = ((k - 1 : Nat) : Int):=by rw [wrap_i64 (by omega) (by omega)]; omega
     rw [w1,Int.toNat_natCast] at h
     exact h0 ⟨by omega,h.2⟩
    have hc : decide ((0 : Int) < (k : Int)) = true→inA 48 (IntKind.wrap .i64 ((k : Int) - 1)):=by
     intro h
     rw [decide_eq_true_eq] at h
     rw [wrap_i64 (by omega) (by omega)]
     exact ⟨by omega,by omega⟩
    rw [chk_pos hc,hd]
    simp only [Bool.false_eq_true,if_false]
    rw [chk_pos (by simp [apOk]; omega),wrap_u64 (by omega) (by omega)]
    have touch : ∀ s∈l,s.gto < (k : Int):=fun s hs=>by
     have s1:=h6 s hs
     rcases Int.lt_or_eq_of_le s1 with h | h
     ·exact h
     ·have s2:=h3 s hs
      have:=(h4 (s.gto - 1)).1 ⟨s,hs,by have:=s2.2.1; omega,by omega⟩
      obtain ⟨j,j1,j2,j3⟩ := this
      have : j = k - 1:=by omega
      subst this
      exact absurd ⟨by omega,j3⟩ h0
    refine ⟨_,rfl,l++[CSpan.mk (k : Int) ((k : Int) + 1)],?_,h2.snoc touch (by (try dsimp only); omega),fun s hs=>?_,fun x=>?_,by simp; omega,fun s hs=>?_,fun j hj hSj=>⟨l,_,rfl,by push_cast; rfl⟩⟩
    ·rw [List.map_append]
     have : ((k : Int) + 1 - (k : Int)) = 1:=by omega
     simp [pairOf,this]
    ·rcases List.mem_append.1 hs with hs | hs
     ·exact h3 s hs
     ·rw [List.mem_singleton] at hs; subst hs
      exact ⟨by (try dsimp only); omega,by (try dsimp only); omega,by (try dsimp only); omega⟩
    ·rw [inS_app,inS_one,h4]
     dsimp only
     constructor
     ·rintro (⟨s,s1,s2,s3⟩ | h)
      ·exact ⟨s,by omega,s2,s3⟩
      ·exact ⟨k,by omega,by omega,hS⟩
     ·rintro ⟨s,s1,s2,s3⟩
      by_cases hsk : s = k
      ·exact .inr ⟨by omega,by omega⟩
      ·exact .inl ⟨s,by omega,s2,s3⟩
    ·push_cast
     rcases List.mem_append.1 hs with hs | hs
     ·have:=h6 s hs; omega
     ·rw [List.mem_singleton] at hs; subst hs; exact Int.le_refl _
  ·have hn : (!(S k)) = true:=by simpa using hS
   rw [if_pos hn]
   refine ⟨_,rfl,l,rfl,h2,h3,fun x=>?_,by omega,fun s hs=>by have:=h6 s hs; omega,fun j hj hSj=>?_⟩
   ·rw [h4]
    constructor
    ·rintro ⟨s,s1,s2,s3⟩; exact ⟨s,by omega,s2,s3⟩
    ·rintro ⟨s,s1,s2,s3⟩
     refine ⟨s,?_,s2,s3⟩
     rcases Nat.lt_or_eq_of_le (Nat.le_of_lt_succ s1) with h | h
     ·exact h
     ·subst h; exact absurd s3 hS
   ·have : j = k:=by omega
    subst this; exact absurd hSj hS
theorem refLost_spec (K : Kn) : ∃ l : List CSpan,e30_Lost K = some (l.map pairOf)∧Can l∧(∀ s∈l,spanOk s)∧(∀ x,inS l x↔∃ s : Nat,s < 48∧x = (s : Int)∧K.gLost s = true∧K.gIds s = 0):=by
 unfold e30_Lost
 rw [foldM_spec (n:=48) (s0:=K.gLost) 48 (fun j i=>if i < j then K.gLost i && (K.gIds i == 0) else K.gLost i) (by funext i; simp) rfl (by decide) (fun j hj=>?_)]
 ·rw [Option.bind_some]
  unfold e30_Lost_K1
  obtain ⟨l,h1,h2,h3,h4,h5⟩ := runs_spec (fun i=>if i < 48 then K.gLost i && (K.gIds i == 0) else K.gLost i)
  rw [h1]
  refine ⟨l,rfl,h2,h3,fun x=>?_⟩
  rw [h4]
  constructor
  ·rintro ⟨s,s1,s2,s3⟩
   rw [if_pos s1] at s3
   simp only [Bool.and_eq_true,beq_iff_eq] at s3
   exact ⟨s,s1,s2,s3⟩
  ·rintro ⟨s,s1,s2,s3⟩
   refine ⟨s,s1,s2,?_⟩
   rw [if_pos s1]
   simpa using s3
 ·unfold e30_Lost_L2
  rw [chk_pos (inA48 hj),chk_pos (fun _=>inA48 hj),chk_pos (inA48 hj),Int.toNat_natCast]
  congr 1
  funext i
  unfold upd
  by_cases h1 : i = j
  ·subst h1; simp
  ·by_cases h2 : i < j
   ·have : i < j + 1:=by omega
    simp [h1,h2,this]
   ·have : ¬ i < j + 1:=by omega
    simp [h1,h2,this]
theorem refMissing_spec (K : Kn) (ht : -1≤K.gTotal∧K.gTotal≤48) : ∃ (e : Int) (l : List CSpan),e30_Missing K = some (l.map pairOf)∧Can l∧(∀ s∈l,spanOk s)∧(∀ x,inS l x↔∃ s : Nat,s < 48∧x = (s : Int)∧x < e∧K.gIds s = 0)∧(0≤K.gTotal→e = K.gTotal)∧(K.gTotal < 0→(∀ s : Nat,s < 48→(K.gIds s≠0∨K.gLost s = true)→(s : Int) < e)∧(0 < e→∃ s : Nat,s < 48∧e = (s : Int) + 1∧(K.gIds s≠0∨K.gLost s = true))):=by
 unfold e30_Missing
 have hInd:=foldM_ind (S:=Int) (mx:=9223372036854775807) (n:=48) (body:=fun k12 s=>e30_Missing_L4 K k12 s) (s0:=K.gTotal)
  (fun k e=>(0≤K.gTotal→e = K.gTotal)∧(K.gTotal < 0→(∀ s : Nat,s < k→(K.gIds s≠0∨K.gLost s = true)→(s : Int) < e)∧(0 < e→∃ s : Nat,s < k∧e = (s : Int) + 1∧(K.gIds s≠0∨K.gLost s = true))))
  (by decide) (by decide) ⟨fun _=>rfl,fun h=>⟨fun s hs=>by omega,fun h2=>by omega⟩⟩ ?_
 ·obtain ⟨e,h1,h2,h3⟩ := hInd
  rw [h1,Option.bind_some]
  unfold e30_Missing_K1
  rw [foldM_spec (n:=48) (mx:=9223372036854775807) (body:=fun k5 s=>e30_Missing_L3 K e k5 s) 48 (fun j i=>if i < j then (decide ((i : Int) < e) && (K.gIds i == 0)) else false) (by funext i; simp [arr]; match i with | 0=>rfl | 1=>rfl | 2=>rfl | 3=>rfl | 4=>rfl | 5=>rfl | 6=>rfl | 7=>rfl | 8=>rfl | 9=>rfl | 10=>rfl | 11=>rfl | 12=>rfl | 13=>rfl | 14=>rfl | 15=>rfl | 16=>rfl | 17=>rfl | 18=>rfl | 19=>rfl | 20=>rfl | 21=>rfl | 22=>rfl | 23=>rfl | 24=>rfl | 25=>rfl | 26=>rfl | 27=>rfl | 28=>rfl | 29=>rfl | 30=>rfl | 31=>rfl | 32=>rfl | 33=>rfl | 34=>rfl | 35=>rfl | 36=>rfl | 37=>rfl | 38=>rfl | 39=>rfl | 40=>rfl | 41=>rfl | 42=>rfl | 43=>rfl | 44=>rfl | 45=>rfl | 46=>rfl | 47=>rfl | n + 48=>rfl) rfl (by decide) (fun j hj=>?_)]
  ·rw [Option.bind_some]
   unfold e30_Missing_K2
   obtain ⟨l,k1,k2,k3,k4,k5⟩ := runs_spec (fun i=>if i < 48 then (decide ((i : Int) < e) && (K.gIds i == 0)) else false)
   rw [k1]
   refine ⟨e,l,rfl,k2,k3,fun x=>?_,h2,h3⟩
   rw [k4]
   constructor
   ·rintro ⟨s,s1,s2,s3⟩
    rw [if_pos s1] at s3
    simp only [Bool.and_eq_true,beq_iff_eq,decide_eq_true_eq] at s3
    exact ⟨s,s1,s2,by rw [s2]; exact s3.1,s3.2⟩
   ·rintro ⟨s,s1,s2,s3,s4⟩
    refine ⟨s,s1,s2,?_⟩
    rw [if_pos s1]
    simp only [Bool.and_eq_true,beq_iff_eq,decide_eq_true_eq]
    exact ⟨by rw [s2] at s3; exact s3,s4⟩
  ·unfold e30_Missing_L3
   rw [chk_pos (fun _=>inA48 hj),chk_pos (inA48 hj),Int.toNat_natCast]
   congr 1
   funext i
   unfold upd
   by_cases h1 : i = j
   ·subst h1; simp
   ·by_cases h2 : i < j
    ·have : i < j + 1:=by omega
     simp [h1,h2,this]
    ·have : ¬ i < j + 1:=by omega
     simp [h1,h2,this]
 ·rintro k e hk ⟨h1,h2⟩
  have hk' : k < 48:=by omega
  unfold e30_Missing_L4
  rw [chk_pos (fun _=>inA48 hk'),chk_pos (fun _=>inA48 hk'),Int.toNat_natCast]
  by_cases ht0 : K.gTotal < 0
  ·obtain ⟨h3,h4⟩ := h2 ht0
   by_cases hx : K.gIds k≠0∨K.gLost k = true
   ·rw [if_pos (by simpa [ht0] using hx)]
    refine ⟨_,rfl,fun h=>by omega,fun _=>⟨fun s hs _=>by omega,fun _=>⟨k,by omega,rfl,hx⟩⟩⟩
   ·rw [if_neg (by simpa [ht0] using hx)]
    refine ⟨_,rfl,h1,fun _=>⟨fun s hs hsx=>?_,fun he=>?_⟩⟩
    ·rcases Nat.lt_or_eq_of_le (Nat.le_of_lt_succ hs) with h | h
     ·exact h3 s h hsx
     ·subst h; exact absurd hsx hx
    ·obtain ⟨s,s1,s2⟩ := h4 he
     exact ⟨s,by omega,s2⟩
  ·rw [if_neg (by simp [ht0])]
   exact ⟨_,rfl,h1,fun h=>absurd h ht0⟩
theorem sameRuns_self (l : List (Nat→Int)) (hl : l.length≤1099511627776) : w30_sameRuns l l = some true:=by
 unfold w30_sameRuns
 rw [if_neg (by simp)]
 rw [forM_next (S:=Unit) (E:=Bool) (s0:=()) l.length (fun _=>()) rfl rfl (by omega) (fun j hj=>?_)]
 ·rfl
 ·unfold w30_sameRuns_L2
  rw [idx_lt hj]
  simp
structure Good (c : Int) (G : Rk→Prop) : Prop where
 seq : ∀ r,G r→0≤r.gSeq∧r.gSeq < 48
 name : ∀ r,G r→r.gEvent.gN≠0
 what : ∀ r,G r→r.gWhat = 1
 comp : ∀ r,G r→r.gComponent = c
 fits : ∀ r,G r→reFits r = true
 one : ∀ r q,G r→G q→r.gSeq = q.gSeq→r.gEvent.gN = q.gEvent.gN→Eqr r q
structure Rel (G : Rk→Prop) (p : CPart) (K : Kn) : Prop where
 asc : Asc p.gentries
 good : ∀ r∈p.gentries,G r∧K.gIds r.gSeq.toNat = r.gEvent.gN
 cov : ∀ s : Nat,s < 48→K.gIds s≠0→hasN p.gentries (s : Int)
 can : Can p.glost
 lost : ∀ x,inS p.glost x↔∃ s : Nat,s < 48∧x = (s : Int)∧K.gLost s = true∧K.gIds s = 0
 sp : ∀ s∈p.glost,spanOk s
 kno : p.gknown = decide (0≤K.gTotal)
 tot : p.gtotal = if 0≤K.gTotal then K.gTotal else 0
 rng : -1≤K.gTotal∧K.gTotal < 48
 ne : p.gentries.length≤48
 nl : p.glost.length≤48
theorem Rel.PW {c : Int} {G : Rk→Prop} (hG : Good c G) {p : CPart} {K : Kn} (h : Rel G p K) : PW p:=by
 have h1:=h.ne
 have h2:=h.nl
 refine ⟨fun r hr=>hG.fits r (h.good r hr).1,h.sp,by omega,by omega,?_,fun hk=>?_⟩
 ·rw [h.tot]; split <;> omega
 ·rw [h.kno,decide_eq_false_iff_not] at hk
  rw [h.tot,if_neg hk]
theorem Rel.hasN {G : Rk→Prop} {c : Int} (hG : Good c G) {p : CPart} {K : Kn} (h : Rel G p K) (x : Int) : hasN p.gentries x↔∃ s : Nat,s < 48∧x = (s : Int)∧K.gIds s≠0:=by
 constructor
 ·rintro ⟨r,hr,rfl⟩
  obtain ⟨g1,g2⟩ := h.good r hr
  have:=hG.seq r g1
  exact ⟨r.gSeq.toNat,by omega,by omega,by rw [g2]; exact hG.name r g1⟩
 ·rintro ⟨s,s1,rfl,s2⟩
  exact h.cov s s1 s2
theorem asc_short {l : List Rk} (h : Asc l) (hr : ∀ r∈l,0≤r.gSeq∧r.gSeq < 48) : l.length≤48:=by
 have : ∀ (i : Nat) (hi : i < l.length),(i : Int)≤l[i].gSeq:=by
  intro i
  induction i with
  | zero=>intro hi; have:=hr _ (List.getElem_mem hi); omega
  | succ i ih=>
   intro hi
   have h1:=ih (by omega)
   have h2:=h.at (show i < i + 1 by omega) hi
   omega
 rcases Nat.lt_or_ge 48 l.length with h1 | h1
 ·have h2:=this (l.length - 1) (by omega)
  have h3:=hr _ (List.getElem_mem (show l.length - 1 < l.length by omega))
  omega
 ·exact h1
theorem can_short {l : List CSpan} (h : Can l) (hr : ∀ s∈l,0≤s.gfrom∧s.gto≤48) : l.length≤48:=by
 have : ∀ (i : Nat) (hi : i < l.length),(i : Int)≤l[i].gfrom:=by
  intro i
  induction i with
  | zero=>intro hi; have:=hr _ (List.getElem_mem hi); omega
  | succ i ih=>
   intro hi
   have h1:=ih (by omega)
   have h2:=List.pairwise_iff_getElem.1 h.1 i (i + 1) (by omega) hi (by omega)
   have h3:=h.2 l[i] (List.getElem_mem _)
   omega
 rcases Nat.lt_or_ge 48 l.length with h1 | h1
 ·have h2:=this (l.length - 1) (by omega)
  have h3:=hr _ (List.getElem_mem (show l.length - 1 < l.length by omega))
  have h4:=h.2 _ (List.getElem_mem (show l.length - 1 < l.length by omega))
  omega
 ·exact h1
theorem Rel.missing {G : Rk→Prop} {c : Int} (hG : Good c G) {p : CPart} {K : Kn} (h : Rel G p K) : ∃ l : List CSpan,CPart_missing p = some l∧e30_Missing K = some (l.map pairOf)∧(∀ s∈l,spanOk s)∧l.length≤49:=by
 have hP:=h.PW hG
 have h1:=h.ne
 have h2:=h.nl
 have hsq : ∀ r∈p.gentries,seqOk r:=fun r hr=>by have:=hG.seq r (h.good r hr).1; exact ⟨this.1,by omega⟩
 have ht : 0≤p.gtotal∧p.gtotal≤18446744073709551615:=by
  have:=h.rng
  rw [h.tot]; split <;> omega
 obtain ⟨e,l,a1,a2,a3,a4,a5,a6⟩ := missing_spec p h.asc hsq h.can h.sp (by omega) (by omega) ht
 obtain ⟨e',l',b1,b2,b3,b4,b5,b6⟩ := refMissing_spec K (by have:=h.rng; omega)
 obtain ⟨e2,c1,c2,c3⟩ := end_spec p h.asc hsq h.can h.sp (by omega) (by omega)
 rw [a1] at c1; obtain rfl:=Option.some.inj c1
 have : l = l' := by
  refine Can.ext a3 b2 fun x=>?_
  rw [a5,b4,h.hasN hG]
  by_cases hk : 0≤K.gTotal
  ·have hpk : p.gknown = true:=by rw [h.kno]; simpa using hk
   have e1:=c2 hpk
   rw [h.tot,if_pos hk] at e1
   have e3:=b5 hk
   have:=h.rng
   constructor
   ·rintro ⟨⟨x1,x2⟩,x3⟩
    refine ⟨x.toNat,by omega,by omega,by omega,Classical.byContradiction fun hx=>x3 ⟨x.toNat,by omega,by omega,hx⟩⟩
   ·rintro ⟨s,s1,rfl,s2,s3⟩
    refine ⟨⟨by omega,by omega⟩,?_⟩
    rintro ⟨q,q1,q2,q3⟩
    have : q = s:=by omega
    subst this; exact q3 s3
  ·have hpk : p.gknown = false:=by rw [h.kno]; simpa using hk
   obtain ⟨d1,d2,d3,d4,d5⟩ := c3 hpk
   obtain ⟨f1,f2⟩ := b6 (by omega)
   have ee : ∀ x : Int,0≤x→(x < e↔x < e'):=by
    intro x hx
    constructor
    ·intro hlt
     rcases d5 (by omega) with h3 | h3
     ·obtain ⟨s,s1,s2,s3⟩ := (h.hasN hG _).1 h3
      have:=f1 s s1 (.inl s3); omega
     ·obtain ⟨s,s1,s2,s3,s4⟩ := (h.lost _).1 h3
      have:=f1 s s1 (.inr s3); omega
    ·intro hlt
     obtain ⟨s,s1,s2,s3⟩ := f2 (by omega)
     by_cases hs : K.gIds s = 0
     ·have:=d4 s ((h.lost _).2 ⟨s,s1,rfl,s3.resolve_left (fun h=>h hs),hs⟩)
      omega
     ·obtain ⟨r,hr,hrs⟩ := h.cov s s1 hs
      have:=d3 r hr; omega
   constructor
   ·rintro ⟨⟨x1,x2⟩,x3⟩
    have x4:=(ee x x1).1 x2
    obtain ⟨s,s1,s2,s3⟩ := f2 (by omega)
    refine ⟨x.toNat,by omega,by omega,x4,Classical.byContradiction fun hx=>x3 ⟨x.toNat,by omega,by omega,hx⟩⟩
   ·rintro ⟨s,s1,rfl,s2,s3⟩
    refine ⟨⟨by omega,(ee _ (by omega)).2 s2⟩,?_⟩
    rintro ⟨q,q1,q2,q3⟩
    have : q = s:=by omega
    subst this; exact q3 s3
 subst this
 exact ⟨l,a2,b1,a4,by omega⟩
theorem Rel.lostRuns {G : Rk→Prop} {p : CPart} {K : Kn} (h : Rel G p K) : e30_Lost K = some (p.glost.map pairOf):=by
 obtain ⟨l,h1,h2,h3,h4⟩ := refLost_spec K
 have : l = p.glost:=Can.ext h2 h.can fun x=>by rw [h4,h.lost]
 rw [h1,this]
theorem Rel.complete {G : Rk→Prop} {c : Int} (hG : Good c G) {p : CPart} {K : Kn} (h : Rel G p K) : ∃ (l : List CSpan) (b : Bool),CPart_missing p = some l∧e30_Complete K = some b∧b = (p.gknown && ((List.length l : Int) == 0)):=by
 obtain ⟨l,h1,h2,h3,h4⟩ := h.missing hG
 refine ⟨l,(p.gknown && ((List.length l : Int) == 0)),h1,?_,rfl⟩
 unfold e30_Complete
 rw [h2]
 by_cases hk : 0≤K.gTotal
 ·have hd : decide (0≤K.gTotal) = true:=by simpa using hk
  rw [h.kno,hd]
  simp only [gb,if_true,Option.bind_some,List.length_map]
 ·have hd : decide (0≤K.gTotal) = false:=by simpa using hk
  rw [h.kno,hd]
  simp only [gb,Bool.false_eq_true,if_false,Option.bind_some,Bool.false_and]
structure Joined (A : Kn) (o : CPart) (K : Kn) : Prop where
 ids : ∀ s : Nat,s < 48→∀ i,i≠0→(K.gIds s = i↔A.gIds s = i∨∃ r∈o.gentries,r.gSeq = (s : Int)∧r.gEvent.gN = i)
 lost : ∀ s : Nat,s < 48→K.gIds s = 0→(K.gLost s = true↔A.gLost s = true∨inS o.glost (s : Int))
 tot : ∀ t,0≤t→(K.gTotal = t↔A.gTotal = t∨(o.gknown = true∧o.gtotal = t))
 rng : -1≤K.gTotal∧K.gTotal < 48
def Sound (K : Kn) : Prop := ∀ s : Nat,s < 48→0≤K.gTotal→K.gTotal≤(s : Int)→K.gIds s = 0∧K.gLost s = false
structure News (G : Rk→Prop) (o : CPart) : Prop where
 good : ∀ r∈o.gentries,G r
 lost : ∀ x,inS o.glost x→0≤x∧x < 48
 tot : 0≤o.gtotal∧(o.gknown = false→o.gtotal = 0)
theorem join_fit {G : Rk→Prop} {c : Int} (hG : Good c G) {p o : CPart} {A K : Kn} (hR : Rel G p A) (hN : News G o) (hJ : Joined A o K) : Fit2 p o↔Sound K:=by
 -- every entry is told by K
 have hent : ∀ r∈both p o,G r∧K.gIds r.gSeq.toNat = r.gEvent.gN:=fun r hr=>by
  rcases List.mem_append.1 hr with h | h
  ·obtain ⟨g1,g2⟩ := hR.good r h
   have:=hG.seq r g1
   exact ⟨g1,(hJ.ids _ (by omega) _ (hG.name r g1)).2 (.inl g2)⟩
  ·have g1:=hN.good r h
   have:=hG.seq r g1
   exact ⟨g1,(hJ.ids _ (by omega) _ (hG.name r g1)).2 (.inr ⟨r,h,by omega,rfl⟩)⟩
 have hone : ∀ x∈both p o,∀ y∈both p o,x.gSeq = y.gSeq→Eqr x y:=fun x hx y hy hxy=>by
  obtain ⟨x1,x2⟩ := hent x hx
  obtain ⟨y1,y2⟩ := hent y hy
  refine hG.one x y x1 y1 hxy ?_
  rw [← x2,← y2,hxy]
 have hkn : knoB p o = true↔0≤K.gTotal:=by
  unfold knoB
  rw [Bool.or_eq_true,hR.kno,decide_eq_true_eq]
  constructor
  ·rintro (h | h)
   ·have:=(hJ.tot _ h).2 (.inl rfl); omega
   ·have:=(hJ.tot _ hN.tot.1).2 (.inr ⟨h,rfl⟩)
    have:=hN.tot.1
    omega
  ·intro h
   rcases (hJ.tot _ h).1 rfl with h1 | h1
   ·exact .inl (by omega)
   ·exact .inr h1.1
 have htot : p.gknown = true→o.gknown = true→p.gtotal = o.gtotal:=fun h1 h2=>by
  rw [hR.kno,decide_eq_true_eq] at h1
  rw [hR.tot,if_pos h1]
  have e1:=(hJ.tot _ h1).2 (.inl rfl)
  have e2:=(hJ.tot _ hN.tot.1).2 (.inr ⟨h2,rfl⟩)
  omega
 have htb : knoB p o = true→totB p o = K.gTotal:=fun hk=>by
  have hk0:=hkn.1 hk
  unfold totB
  have hn:=hN.tot
  rw [hR.tot]
  rcases (hJ.tot _ hk0).1 rfl with h1 | ⟨h1,h2⟩
  ·by_cases ho : o.gknown = true
   ·have:=htot (by rw [hR.kno,decide_eq_true_eq]; omega) ho
    rw [hR.tot] at this
    split at this <;> split <;> split <;> omega
   ·have:=hn.2 (by simpa using ho)
    split <;> split <;> omega
  ·by_cases hp : 0≤A.gTotal
   ·have:=htot (by rw [hR.kno,decide_eq_true_eq]; exact hp) h1
    rw [hR.tot,if_pos hp] at this
    split <;> split <;> omega
   ·split <;> split <;> omega
 constructor
 ·intro hF s hs h0 hts
  have hk:=hkn.2 h0
  have hT:=htb hk
  have hid : K.gIds s = 0:=by
   refine Classical.byContradiction fun hne=>?_
   rcases (hJ.ids s hs _ hne).1 rfl with h | ⟨r,r1,r2,r3⟩
   ·obtain ⟨r,r1,r2⟩ := hR.cov s hs (by rw [h]; exact hne)
    have:=hF.ent hk r (List.mem_append_left _ r1)
    omega
   ·have:=hF.ent hk r (List.mem_append_right _ r1)
    omega
  refine ⟨hid,?_⟩
  rw [Bool.eq_false_iff]
  intro hl
  have hA0 : A.gIds s = 0:=Classical.byContradiction fun hne=>by
   have:=(hJ.ids s hs _ hne).2 (.inl rfl)
   omega
  rcases (hJ.lost s hs hid).1 hl with h | h
  ·have:=hF.lost hk s (.inl ((hR.lost _).2 ⟨s,hs,rfl,h,hA0⟩))
   omega
  ·have:=hF.lost hk s (.inr h)
   omega
 ·intro hS
  refine ⟨htot,hone,fun x hx=>?_,fun hk x hx=>?_,fun hk x hx=>?_⟩
  ·have:=hG.seq x (hent x hx).1; omega
  ·have h0:=hkn.1 hk
   rw [htb hk]
   obtain ⟨x1,x2⟩ := hent x hx
   have hsq:=hG.seq x x1
   refine Classical.byContradiction fun hlt=>?_
   have:=(hS x.gSeq.toNat (by omega) h0 (by omega)).1
   rw [x2] at this
   exact hG.name x x1 this
  ·have h0:=hkn.1 hk
   rw [htb hk]
   have hxr : 0≤x∧x < 48:=by
    rcases hx with h | h
    ·obtain ⟨s,s1,rfl,_⟩ := (hR.lost x).1 h; omega
    ·exact hN.lost x h
   refine Classical.byContradiction fun hlt=>?_
   obtain ⟨k1,k2⟩ := hS x.toNat (by omega) h0 (by omega)
   have e : ((x.toNat : Nat) : Int) = x:=by omega
   have : K.gLost x.toNat = true:=by
    refine (hJ.lost x.toNat (by omega) k1).2 ?_
    rcases hx with h | h
    ·obtain ⟨s,s1,rfl,s2,s3⟩ := (hR.lost x).1 h
     exact .inl (by rw [Int.toNat_natCast]; exact s2)
    ·exact .inr (by rw [e]; exact h)
   rw [k2] at this; cases this
theorem join_rel {G : Rk→Prop} {c : Int} (hG : Good c G) (hGe : ∀ r q,G r→Eqr q r→reFits q = true→G q) {p o m : CPart} {A K : Kn} (hR : Rel G p A) (hN : News G o) (hJ : Joined A o K) (hF : Fit2 p o) (hM : Merged p o m) : Rel G m K:=by
 have hent : ∀ r∈both p o,G r∧K.gIds r.gSeq.toNat = r.gEvent.gN:=fun r hr=>by
  rcases List.mem_append.1 hr with h | h
  ·obtain ⟨g1,g2⟩ := hR.good r h
   have:=hG.seq r g1
   exact ⟨g1,(hJ.ids _ (by omega) _ (hG.name r g1)).2 (.inl g2)⟩
  ·have g1:=hN.good r h
   have:=hG.seq r g1
   exact ⟨g1,(hJ.ids _ (by omega) _ (hG.name r g1)).2 (.inr ⟨r,h,by omega,rfl⟩)⟩
 have hgood : ∀ r∈m.gentries,G r∧K.gIds r.gSeq.toNat = r.gEvent.gN:=fun r hr=>hent r (hM.sub r hr)
 have hcov : ∀ s : Nat,s < 48→K.gIds s≠0→hasN m.gentries (s : Int):=fun s hs hne=>by
  rcases (hJ.ids s hs _ hne).1 rfl with h | ⟨r,r1,r2,r3⟩
  ·obtain ⟨r,r1,r2⟩ := hR.cov s hs (by rw [h]; exact hne)
   obtain ⟨y,y1,y2⟩ := hM.cov r (List.mem_append_left _ r1)
   exact ⟨y,y1,by rw [y2.seq]; exact r2⟩
  ·obtain ⟨y,y1,y2⟩ := hM.cov r (List.mem_append_right _ r1)
   exact ⟨y,y1,by rw [y2.seq]; exact r2⟩
 have hasm : ∀ x,hasN m.gentries x↔∃ s : Nat,s < 48∧x = (s : Int)∧K.gIds s≠0:=fun x=>by
  constructor
  ·rintro ⟨r,hr,rfl⟩
   obtain ⟨g1,g2⟩ := hgood r hr
   have:=hG.seq r g1
   exact ⟨r.gSeq.toNat,by omega,by omega,by rw [g2]; exact hG.name r g1⟩
  ·rintro ⟨s,s1,rfl,s2⟩
   exact hcov s s1 s2
 have hlost : ∀ x,inS m.glost x↔∃ s : Nat,s < 48∧x = (s : Int)∧K.gLost s = true∧K.gIds s = 0:=fun x=>by
  rw [hM.lost,hasm]
  constructor
  ·rintro ⟨h1,h2⟩
   have hxr : 0≤x∧x < 48:=by
    rcases h1 with h | h
    ·obtain ⟨s,s1,rfl,_⟩ := (hR.lost x).1 h; omega
    ·exact hN.lost x h
   have hid : K.gIds x.toNat = 0:=Classical.byContradiction fun hne=>h2 ⟨x.toNat,by omega,by omega,hne⟩
   have e : ((x.toNat : Nat) : Int) = x:=by omega
   refine ⟨x.toNat,by omega,by omega,(hJ.lost x.toNat (by omega) hid).2 ?_,hid⟩
   rcases h1 with h | h
   ·obtain ⟨s,s1,rfl,s2,s3⟩ := (hR.lost x).1 h
    exact .inl (by rw [Int.toNat_natCast]; exact s2)
   ·exact .inr (by rw [e]; exact h)
  ·rintro ⟨s,s1,rfl,s2,s3⟩
   refine ⟨?_,?_⟩
   ·have hA0 : A.gIds s = 0:=Classical.byContradiction fun hne=>by
     have:=(hJ.ids s s1 _ hne).2 (.inl rfl)
     omega
    rcases (hJ.lost s s1 s3).1 s2 with h | h
    ·exact .inl ((hR.lost _).2 ⟨s,s1,rfl,h,hA0⟩)
    ·exact .inr h
   ·rintro ⟨q,q1,q2,q3⟩
    have : q = s:=by omega
    subst this; exact q3 s3
 have hkn : knoB p o = true↔0≤K.gTotal:=by
  unfold knoB
  rw [Bool.or_eq_true,hR.kno,decide_eq_true_eq]
  constructor
  ·rintro (h | h)
   ·have:=(hJ.tot _ h).2 (.inl rfl); omega
   ·have:=(hJ.tot _ hN.tot.1).2 (.inr ⟨h,rfl⟩)
    have:=hN.tot.1
    omega
  ·intro h
   rcases (hJ.tot _ h).1 rfl with h1 | h1
   ·exact .inl (by omega)
   ·exact .inr h1.1
 refine ⟨hM.asc,hgood,hcov,hM.can,hlost,hM.sp,?_,?_,hJ.rng,asc_short hM.asc fun r hr=>hG.seq r (hgood r hr).1,can_short hM.can fun s hs=>?_⟩
 ·rw [hM.kno]
  cases hk : knoB p o with
  | true=>exact (decide_eq_true (hkn.1 hk)).symm
  | false=>exact (decide_eq_false (fun h=>by have:=hkn.2 h; rw [hk] at this; cases this)).symm
 ·rw [hM.tot]
  unfold totB
  have hn:=hN.tot
  have ft:=hF.tot
  rw [hR.kno,decide_eq_true_eq] at ft
  rw [hR.tot] at ft ⊢
  by_cases hk : 0≤K.gTotal
  ·rw [if_pos hk]
   rcases (hJ.tot _ hk).1 rfl with h1 | ⟨h1,h2⟩
   ·have h3 : 0≤A.gTotal:=by omega
    rw [if_pos h3] at ft ⊢
    by_cases ho : o.gknown = true
    ·have:=ft h3 ho
     split <;> omega
    ·have:=hn.2 (by simpa using ho)
     split <;> omega
   ·by_cases hp : 0≤A.gTotal
    ·rw [if_pos hp] at ft ⊢
     have:=ft hp h1
     split <;> omega
    ·rw [if_neg hp]
     split <;> omega
  ·rw [if_neg hk]
   have h3 : ¬ 0≤A.gTotal:=fun h=>by have:=(hJ.tot _ h).2 (.inl rfl); omega
   have h4 : o.gknown = false:=by
    rw [Bool.eq_false_iff]
    intro h
    have:=(hJ.tot _ hn.1).2 (.inr ⟨h,rfl⟩)
    omega
   rw [if_neg h3,hn.2 h4]
   rfl
 ·have h1:=hM.sp s hs
  have h2:=(hlost (s.gto - 1)).1 ⟨s,hs,by have:=h1.2.1; omega,by omega⟩
  obtain ⟨q,q1,q2,_⟩ := h2
  exact ⟨h1.1,by omega⟩
def Clash (A : Kn) (o : CPart) : Prop :=
 (∃ r∈o.gentries,A.gIds r.gSeq.toNat≠0∧A.gIds r.gSeq.toNat≠r.gEvent.gN)∨(∃ r∈o.gentries,∃ q∈o.gentries,r.gSeq = q.gSeq∧r.gEvent.gN≠q.gEvent.gN)∨(0≤A.gTotal∧o.gknown = true∧A.gTotal≠o.gtotal)
theorem eqr_name {x y : Rk} (h : Eqr x y) : x.gEvent.gN = y.gEvent.gN:=by
 have:=(recEq_iff.1 h).2.2.2.2.1
 exact congrArg Ev.n this
theorem clash_not {G : Rk→Prop} {c : Int} (hG : Good c G) {p o : CPart} {A : Kn} (hR : Rel G p A) (hN : News G o) (h : Clash A o) : ¬ Fit2 p o:=by
 intro hF
 rcases h with ⟨r,r1,r2,r3⟩ | ⟨r,r1,q,q1,h1,h2⟩ | ⟨h1,h2,h3⟩
 ·have hs:=hG.seq r (hN.good r r1)
  obtain ⟨q,q1,q2⟩ := hR.cov r.gSeq.toNat (by omega) r2
  have e : q.gSeq = r.gSeq:=by omega
  have:=hF.one q (List.mem_append_left _ q1) r (List.mem_append_right _ r1) e
  have hn:=eqr_name this
  have hq:=(hR.good q q1).2
  rw [e] at hq
  exact r3 (by rw [hq,hn])
 ·exact h2 (eqr_name (hF.one r (List.mem_append_right _ r1) q (List.mem_append_right _ q1) h1))
 ·have:=hF.tot (by rw [hR.kno]; simpa using h1) h2
  rw [hR.tot,if_pos h1] at this
  exact h3 this
theorem agrees_one {G : Rk→Prop} (parts : List CPart) (Ks : List Kn) (i : Nat) (hi : i < parts.length) (hi2 : i < Ks.length) (hlen : parts.length≤16) (hG : Good (i : Int) G) (hR : Rel G parts[i] Ks[i]) (a : Bool) :
  ∃ (l : List CSpan),CPart_missing parts[i] = some l∧w30_agrees_a_L2 ⟨parts⟩ Ks i a = some (.next (a && (parts[i].gknown && ((List.length l : Int) == 0)))):=by
 obtain ⟨l,b,c1,c2,c3⟩ := hR.complete hG
 refine ⟨l,c1,?_⟩
 have hgp : CColl_part_a (i : Int) ⟨parts⟩ = some parts[i]:=by
  unfold CColl_part_a
  have hd : ¬ ((decide ((i : Int) < 0)) || (decide ((List.length parts : Int)≤(i : Int)))) = true:=by simp; omega
  dsimp only
  rw [if_neg hd,idx_lt hi]
  rfl
 have hne:=hR.ne
 have hnl:=hR.nl
 have hrec : CColl_Records_a (i : Int) ⟨parts⟩ = some parts[i].gentries:=by
  unfold CColl_Records_a
  rw [hgp,Option.bind_some,cloneAll_eq _ (by omega) (fun r hr=>hG.fits r (hR.good r hr).1)]
  rfl
 have hlost : CColl_Lost_a (i : Int) ⟨parts⟩ = some (parts[i].glost.map pairOf):=by
  unfold CColl_Lost_a
  rw [hgp,Option.bind_some,pairs_eq _ (by omega) hR.sp]
  rfl
 obtain ⟨l',m1,m2,m3,m4⟩ := hR.missing hG
 rw [c1] at m1; obtain rfl:=Option.some.inj m1
 have hmiss : CColl_Missing_a (i : Int) ⟨parts⟩ = some (l.map pairOf):=by
  unfold CColl_Missing_a
  rw [hgp,Option.bind_some,c1,Option.bind_some,pairs_eq _ (by omega) m3]
  rfl
 have htot : CColl_Total_a (i : Int) ⟨parts⟩ = some (parts[i].gtotal,parts[i].gknown):=by
  unfold CColl_Total_a
  rw [hgp]
  rfl
 unfold w30_agrees_a_L2
 rw [idx_lt hi2,Option.bind_some,hrec,Option.bind_some]
 generalize parts[i] = p at *
 generalize Ks[i] = K at *
 have hloop : ∃ t,forM' (E:=Bool) 9223372036854775807 48 (fun k34 s=>w30_agrees_a_L5 i K p.gentries k34 s) 0 = some t∧t = .next (p.gentries.length : Int):=by
  refine forM_ind (S:=Int) (E:=Bool) (mx:=9223372036854775807) (n:=48) (fun k s=>∃ n : Nat,s = (n : Int)∧n≤p.gentries.length∧(∀ j (hj : j < p.gentries.length),j < n→p.gentries[j].gSeq < (k : Int))∧(∀ j (hj : j < p.gentries.length),n≤j→(k : Int)≤p.gentries[j].gSeq)) (fun t=>t = .next (p.gentries.length : Int)) (by decide) (by decide) ⟨0,rfl,Nat.zero_le _,fun j hj h=>by omega,fun j hj _=>(hG.seq _ (hR.good _ (List.getElem_mem hj)).1).1⟩ ?_ ?_
  ·rintro k s hk ⟨n,rfl,h1,h2,h3⟩
   have hk' : k < 48:=by omega
   unfold w30_agrees_a_L5
   rw [chk_pos (inA48 hk'),Int.toNat_natCast]
   refine .inl ?_
   by_cases h0 : K.gIds k = 0
   ·rw [if_pos (by simpa using h0)]
    refine ⟨_,rfl,n,rfl,h1,fun j hj hjn=>by have:=h2 j hj hjn; omega,fun j hj hjn=>?_⟩
    have:=h3 j hj hjn
    rcases Int.lt_or_eq_of_le this with h | h
    ·omega
    ·have hq:=(hR.good _ (List.getElem_mem hj))
     have hnz:=hG.name _ hq.1
     rw [← hq.2,← h,Int.toNat_natCast] at hnz
     exact absurd h0 hnz
   ·rw [if_neg (by simpa using h0)]
    obtain ⟨r,hr,hrs⟩ := hR.cov k hk' h0
    obtain ⟨j,hj,rfl⟩ := List.getElem_of_mem hr
    have hjn : j = n:=by
     rcases Nat.lt_trichotomy j n with h | h | h
     ·have:=h2 j hj h; omega
     ·exact h
     ·have a1:=h3 n (by omega) (Nat.le_refl _)
      have a2:=hR.asc.at h hj
      omega
    subst hjn
    have hg:=hR.good _ (List.getElem_mem hj)
    have e1:=hG.what _ hg.1
    have e2:=hG.comp _ hg.1
    have e3:=hg.2
    have hd : decide ((List.length p.gentries : Int)≤(j : Int)) = false:=by simp only [decide_eq_false_iff_not]; omega
    rw [hrs,Int.toNat_natCast] at e3
    have wk : IntKind.wrap .u64 (k : Int) = (k : Int):=wrap_u64 (by omega) (by omega)
    have wj : IntKind.wrap .i64 ((j : Int) + 1) = ((j + 1 : Nat) : Int):=by rw [wrap_i64 (by omega) (by omega)]; omega
    simp only [hd,gb,Bool.not_false,if_true,idx_lt hj,Option.bind_some,Bool.false_or,wk,hrs,bne_self_eq_false,e1,e2,e3,Bool.or_self,Bool.false_eq_true,if_false,wj]
    refine ⟨_,rfl,j + 1,rfl,hj,fun q hq hqj=>?_,fun q hq hqj=>?_⟩
    ·have:=hR.asc.le (show q≤j by omega) hj; omega
    ·have:=hR.asc.at (show j < q by omega) hq; omega
  ·rintro s ⟨n,rfl,h1,h2,h3⟩
   have : n = p.gentries.length:=by
    rcases Nat.lt_or_eq_of_le h1 with h | h
    ·have a1:=h3 n h (Nat.le_refl _)
     have a2:=hG.seq _ (hR.good _ (List.getElem_mem h)).1
     have e : ((Int.toNat 48 : Nat) : Int) = 48:=rfl
     omega
    ·exact h
   rw [this]
 obtain ⟨t,ht,rfl⟩ := hloop
 rw [ht]
 simp only [Option.bind_some]
 unfold w30_agrees_a_K4
 rw [htot]
 simp only [Option.bind_some,hlost,hmiss,hR.lostRuns,m2,c2]
 have hk:=hR.kno
 have htv:=hR.tot
 have hr:=hR.rng
 have z1 : (p.gknown && (p.gtotal != IntKind.wrap .u64 K.gTotal)) = false:=by
  by_cases h : 0≤K.gTotal
  ·rw [hk,htv,if_pos h,wrap_u64 h (by omega)]; simp
  ·rw [hk]; simp [h]
 have z2 : ((!p.gknown) && (p.gtotal != 0)) = false:=by
  by_cases h : 0≤K.gTotal
  ·rw [hk]; simp [h]
  ·rw [hk,htv,if_neg h]; simp
 have z0 : (p.gknown != decide (0≤K.gTotal)) = false:=by rw [hk]; simp
 simp only [bne_self_eq_false,Bool.false_or,z0,z1,z2,gb,Bool.not_false,if_true,Option.bind_some,sameRuns_self _ (show (p.glost.map pairOf).length≤1099511627776 by rw [List.length_map]; omega),sameRuns_self _ (show (l.map pairOf).length≤1099511627776 by rw [List.length_map]; omega),Bool.not_true,Bool.or_false,Bool.false_eq_true,if_false]
 cases a with
 | true=>simp [w30_agrees_a_K3,c3]
 | false=>simp [w30_agrees_a_K3]
theorem agrees_eq {G : Nat→Rk→Prop} (parts : List CPart) (Ks : List Kn) (hlen : parts.length = Ks.length) (h1 : 1≤parts.length) (h16 : parts.length≤16) (hG : ∀ i : Nat,Good (i : Int) (G i)) (hR : ∀ (i : Nat) (hi : i < parts.length) (hi2 : i < Ks.length),Rel (G i) parts[i] Ks[i]) : w30_agrees_a ⟨parts⟩ Ks = some true:=by
 -- whether all is there up to a part
 have hm : ∀ i (hi : i < parts.length),∃ l,CPart_missing parts[i] = some l:=fun i hi=>by
  obtain ⟨l,hl,_⟩ := agrees_one parts Ks i hi (by omega) h16 (hG i) (hR i hi (by omega)) true
  exact ⟨l,hl⟩
 let done : CPart→Bool:=fun p=>match CPart_missing p with
  | some l=>p.gknown && ((List.length l : Int) == 0)
  | none=>false
 have hstep : ∀ i (hi : i < parts.length) a,w30_agrees_a_L2 ⟨parts⟩ Ks i a = some (.next (a && done parts[i])):=fun i hi a=>by
  obtain ⟨l,c1,c2⟩ := agrees_one parts Ks i hi (by omega) h16 (hG i) (hR i hi (by omega)) a
  rw [c2]
  simp only [done,c1]
 unfold w30_agrees_a
 rw [forM_next (S:=Bool) (E:=Bool) (s0:=true) Ks.length (fun j=>(parts.take j).all done) (by simp) rfl (by omega) (fun j hj=>?_)]
 ·simp only [Option.bind_some]
  unfold w30_agrees_a_K1
  have hcomp : CColl_Complete_a ⟨parts⟩ = some (parts.all done):=by
   unfold CColl_Complete_a
   have hz : ¬ ((List.length parts : Int) == 0) = true:=by simp; intro h; subst h; simp at h1
   dsimp only
   rw [if_neg hz]
   obtain ⟨t,t1,t2⟩ := forM_ind (S:=Unit) (E:=Bool) (mx:=9223372036854775807) (n:=(List.length parts : Int)) (body:=fun k2 s=>CColl_Complete_a_L2 ⟨parts⟩ k2) (s0:=()) (fun k _=>(parts.take k).all done = true) (fun t=>match t with
    | .next _=>parts.all done = true
    | .done r=>r = false∧parts.all done = false) (by omega) (by omega) (by simp) (fun k s hk hI=>by
     have hk' : k < parts.length:=by omega
     obtain ⟨l,hl⟩ := hm k hk'
     unfold CColl_Complete_a_L2
     dsimp only
     rw [idx_lt hk',Option.bind_some,hl]
     have hdn : done parts[k] = (parts[k].gknown && ((List.length l : Int) == 0)):=by simp only [done,hl]
     cases hkn : parts[k].gknown with
     | false=>
      refine .inr ⟨false,by simp [gb],rfl,?_⟩
      rw [Bool.eq_false_iff]
      intro h
      have:=(List.all_eq_true.1 h) _ (List.getElem_mem hk')
      rw [hdn,hkn] at this; simp at this
     | true=>
      by_cases hl0 : l.length = 0
      ·refine .inl ⟨(),by simp [gb,hl0],?_⟩
       rw [List.take_succ_eq_append_getElem hk',List.all_append,hI]
       simp [hdn,hkn,hl0]
      ·have : 0 < l.length:=Nat.pos_of_ne_zero hl0
       refine .inr ⟨false,by simp [gb,this],rfl,?_⟩
       rw [Bool.eq_false_iff]
       intro h
       have:=(List.all_eq_true.1 h) _ (List.getElem_mem hk')
       rw [hdn,hkn] at this; simp at this
       exact hl0 (by rw [this]; rfl)) (fun s hI=>by
     rw [Int.toNat_natCast,List.take_length] at hI; exact hI)
   rw [t1]
   cases t with
   | next s=>simp only [Option.bind_some]; rw [t2]; rfl
   | done r=>obtain ⟨rfl,t3⟩ := t2; simp only [Option.bind_some]; rw [t3]
  have htl : parts.take Ks.length = parts:=by rw [← hlen,List.take_length]
  rw [hcomp,Option.bind_some,htl]
  simp only [beq_self_eq_true,gb,if_true,Bool.true_and]
  unfold CColl_Components_a
  simp only [Option.bind_some]
  have w1 : IntKind.wrap .i64 ((List.length parts : Int) - 1) = (parts.length : Int) - 1:=wrap_i64 (by omega) (by omega)
  have w2 : IntKind.wrap .i64 ((List.length Ks : Int) - 1) = (parts.length : Int) - 1:=by rw [wrap_i64 (by omega) (by omega)]; omega
  rw [w1,w2]
  congr 1
  rw [beq_iff_eq]
  split <;> omega
 ·rw [hstep j (by omega),List.take_succ_eq_append_getElem (by omega),List.all_append]
  simp
theorem or_u32 {a c : Int} (i : Nat) (ha : 0≤a) (ha' : a < 2 ^ i) (hc : 0≤c) (hs : a + c * 2 ^ i < 4294967296) : bitI .or .u32 a (c * 2 ^ i) = a + c * 2 ^ i:=by
 have hp : (0 : Int) < 2 ^ i:=Int.pow_pos (by omega)
 have hcm : 0≤c * 2 ^ i:=Int.mul_nonneg hc (by omega)
 have e32 : (2 : Int) ^ IntKind.u32.bits = 4294967296:=rfl
 have n1:=bit_nat (k:=.u32) ha (by rw [e32]; omega)
 have n2:=bit_nat (k:=.u32) hcm (by rw [e32]; omega)
 unfold bitI
 simp only [BitVec.toNat_or,n1,n2]
 obtain ⟨A,rfl⟩ := Int.eq_ofNat_of_zero_le ha
 obtain ⟨C,rfl⟩ := Int.eq_ofNat_of_zero_le hc
 have e1 : ((C : Int) * 2 ^ i) = ((C * 2 ^ i : Nat) : Int):=by simp
 rw [e1,Int.toNat_natCast,Int.toNat_natCast]
 have hA : A < 2 ^ i:=by
  have : (A : Int) < ((2 ^ i : Nat) : Int):=by simpa using ha'
  exact_mod_cast this
 have hor : A ||| C * 2 ^ i = A + C * 2 ^ i:=by
  rw [Nat.or_comm,Nat.mul_comm,← Nat.two_pow_add_eq_or_of_lt hA,Nat.add_comm]
 rw [hor]
 rw [wrap_in (k:=.u32) ⟨by omega,by rw [e1] at hs; push_cast at hs ⊢; omega⟩]
 push_cast; rfl
theorem or_i64 {a c : Int} (i : Nat) (ha : 0≤a) (ha' : a < 2 ^ i) (hc : 0≤c) (hs : a + c * 2 ^ i < 9223372036854775808) : bitI .or .i64 a (c * 2 ^ i) = a + c * 2 ^ i:=by
 have hp : (0 : Int) < 2 ^ i:=Int.pow_pos (by omega)
 have hcm : 0≤c * 2 ^ i:=Int.mul_nonneg hc (by omega)
 have e64 : (2 : Int) ^ IntKind.i64.bits = 18446744073709551616:=rfl
 have n1:=bit_nat (k:=.i64) ha (by rw [e64]; omega)
 have n2:=bit_nat (k:=.i64) hcm (by rw [e64]; omega)
 unfold bitI
 simp only [BitVec.toNat_or,n1,n2]
 obtain ⟨A,rfl⟩ := Int.eq_ofNat_of_zero_le ha
 obtain ⟨C,rfl⟩ := Int.eq_ofNat_of_zero_le hc
 have e1 : ((C : Int) * 2 ^ i) = ((C * 2 ^ i : Nat) : Int):=by simp
 rw [e1,Int.toNat_natCast,Int.toNat_natCast]
 have hA : A < 2 ^ i:=by
  have : (A : Int) < ((2 ^ i : Nat) : Int):=by simpa using ha'
  exact_mod_cast this
 have hor : A ||| C * 2 ^ i = A + C * 2 ^ i:=by
  rw [Nat.or_comm,Nat.mul_comm,← Nat.two_pow_add_eq_or_of_lt hA,Nat.add_comm]
 rw [hor]
 rw [wrap_in (k:=.i64) ⟨by omega,by rw [e1] at hs; push_cast at hs ⊢; omega⟩]
 push_cast; rfl
def U32 (x : Int) : Prop:=0≤x∧x < 4294967296
theorem wrap_u32R (x : Int) : U32 (IntKind.wrap .u32 x):=by
 simp [U32,IntKind.wrap,IntKind.bits,IntKind.signed]; omega
theorem bit_u32R (op : BinOp) (x y : Int) : U32 (bitI op .u32 x y):=by
 unfold bitI
 split <;> exact wrap_u32R _
theorem wrap_u32 {n : Int} (h : U32 n) : IntKind.wrap .u32 n = n:=wrap_in (k:=.u32) ⟨h.1,by have:=h.2; omega⟩
theorem wrap_u8m {n : Int} : IntKind.wrap .u8 n = n % 256:=by
 simp [IntKind.wrap,IntKind.bits,IntKind.signed]
def crc1 (a : Int) : Int:=(frame_update_L4 0 a).getD 0
theorem crc1_some (k : Nat) (a : Int) : frame_update_L4 k a = some (crc1 a):=by
 unfold crc1 frame_update_L4
 split <;> rfl
def iterI (f : Int→Int) : Nat→Int→Int
 | 0,a=>a
 | n + 1,a=>f (iterI f n a)
def crcB (a v : Int) : Int:=iterI crc1 8 (bitI .xor .u32 a (IntKind.wrap .u32 v))
theorem crcB_some (x1 : List Int) (k : Nat) (a : Int) (h : k < x1.length) : frame_update_L2 x1 k a = some (crcB a x1[k]):=by
 unfold frame_update_L2
 have : idx x1 (k : Int) = some x1[k]:=by simp [idx,h]
 rw [this]
 simp only [Option.bind_some]
 have hf : foldM' 9223372036854775807 8 (fun k12 s=>frame_update_L4 k12 s) (bitI .xor .u32 a (IntKind.wrap .u32 x1[k])) = some (crcB a x1[k]) :=
  foldM_spec (mx:=9223372036854775807) (n:=8) (body:=fun k12 s=>frame_update_L4 k12 s) (s0:=bitI .xor .u32 a (IntKind.wrap .u32 x1[k])) 8 (fun j=>iterI crc1 j (bitI .xor .u32 a (IntKind.wrap .u32 x1[k]))) rfl rfl (by decide) (fun j _=>crc1_some _ _)
 rw [hf]
 rfl
def crcL (s : Int) (xs : List Int) : Int:=xs.foldl crcB s
theorem update_eq (s : Int) (xs : List Int) (h : xs.length≤9223372036854775807) : frame_update s xs = some (crcL s xs):=by
 unfold frame_update
 rw [foldM_spec (s0:=s) xs.length (fun j=>crcL s (xs.take j)) (by simp [crcL]) rfl (by omega) (fun j hj=>?_)]
 ·simp [frame_update_K1]
 ·show frame_update_L2 xs j _ = _
  rw [crcB_some xs j _ hj]
  congr 1
  unfold crcL
  rw [List.take_succ_eq_append_getElem hj,List.foldl_append]
  rfl
def ckS (a b : List Int) : Int:=bitI .xor .u32 (if IntKind.signed .u32 = true then -1 else IntKind.max .u32) (crcL (crcL 4294967295 a) b)
theorem checksum_eq (a b : List Int) (ha : a.length≤9223372036854775807) (hb : b.length≤9223372036854775807) : frame_checksum a b = some (ckS a b):=by
 unfold frame_checksum
 rw [update_eq _ _ ha]
 simp only [Option.bind_some]
 rw [update_eq _ _ hb]
 rfl
theorem ckS_range (a b : List Int) : U32 (ckS a b):=bit_u32R _ _ _
def sumB (s : Int) : List Int:=[s % 256,s / 256 % 256,s / 65536 % 256,s / 16777216 % 256]
def lenB (n : Nat) : List Int:=[(n : Int) % 256,(n : Int) / 256 % 256]
def frameOf (b : List Int) : List Int:=[165,90]++lenB b.length++sumB (ckS (lenB b.length) b)++b
theorem frameOf_len (b : List Int) : (frameOf b).length = 8 + b.length:=by simp [frameOf,lenB,sumB]; omega
theorem append_eq (p b : List Int) (hb : b.length≤4000) (hp : p.length≤1099511627776) : frame_Append p b = some (p++frameOf b,0):=by
 unfold frame_Append
 have h1 : ¬ (4000 < (List.length b : Int)):=by omega
 have e1 : [(IntKind.wrap .u8 (List.length b : Int)),(IntKind.wrap .u8 (Int.fdiv (List.length b : Int) (2 ^ min (Int.toNat 8) (IntKind.bits .i64))))] = lenB b.length:=by
  have : (2 : Int) ^ min (Int.toNat 8) (IntKind.bits .i64) = 256:=by decide
  rw [this,wrap_u8m,wrap_u8m,Int.fdiv_eq_ediv_of_nonneg _ (by omega)]
  rfl
 simp only [h1,decide_false,Bool.false_eq_true,if_false,e1]
 rw [checksum_eq _ _ (by simp [lenB]) (by omega)]
 simp only [Option.bind_some]
 have hs:=ckS_range (lenB b.length) b
 have e2 : ∀ s : Int,U32 s→[(IntKind.wrap .u8 s),(IntKind.wrap .u8 (Int.fdiv s (2 ^ min (Int.toNat 8) (IntKind.bits .u32)))),(IntKind.wrap .u8 (Int.fdiv s (2 ^ min (Int.toNat 16) (IntKind.bits .u32)))),(IntKind.wrap .u8 (Int.fdiv s (2 ^ min (Int.toNat 24) (IntKind.bits .u32))))] = sumB s:=by
  intro s hs
  have a1 : (2 : Int) ^ min (Int.toNat 8) (IntKind.bits .u32) = 256:=by decide
  have a2 : (2 : Int) ^ min (Int.toNat 16) (IntKind.bits .u32) = 65536:=by decide
  have a3 : (2 : Int) ^ min (Int.toNat 24) (IntKind.bits .u32) = 16777216:=by decide
  rw [a1,a2,a3,wrap_u8m,wrap_u8m,wrap_u8m,wrap_u8m,Int.fdiv_eq_ediv_of_nonneg _ (by omega),Int.fdiv_eq_ediv_of_nonneg _ (by omega),Int.fdiv_eq_ediv_of_nonneg _ (by omega)]
  rfl
 rw [e2 _ hs]
 have i0 : idx (lenB b.length) 0 = some ((b.length : Int) % 256):=rfl
 have i1 : idx (lenB b.length) 1 = some ((b.length : Int) / 256 % 256):=rfl
 rw [i0,i1]
 simp only [Option.bind_some]
 have w1 : IntKind.wrap .i64 ((List.length p : Int) + 8) = (List.length p : Int) + 8:=wrap_i64 (by omega) (by omega)
 rw [w1,wrap_i64 (by omega) (by omega)]
 have l4 : (sumB (ckS (lenB b.length) b)).length = 4:=rfl
 rw [chk_pos (by unfold mkOk; omega),chk_pos (by simp [apOk]; omega),chk_pos (by simp [apOk]; omega),chk_pos (by simp [apOk,l4]; omega),chk_pos (by simp [apOk,l4]; omega)]
 simp [frameOf,lenB]
theorem stands_eq (b rest : List Int) (hb : b.length≤4000) (hr : rest.length≤1099511627776) : frame_stands (frameOf b++rest) = some (8 + (b.length : Int),true):=by
 have hs:=ckS_range (lenB b.length) b
 generalize hck : ckS (lenB b.length) b = s at hs
 have hl : ((frameOf b++rest).length : Int) = 8 + b.length + rest.length:=by rw [List.length_append,frameOf_len]; push_cast; omega
 have hx : frameOf b++rest = 165 :: 90 :: ((b.length : Int) % 256) :: ((b.length : Int) / 256 % 256) :: (s % 256) :: (s / 256 % 256) :: (s / 65536 % 256) :: (s / 16777216 % 256) :: (b++rest):=by
  rw [← hck]; simp [frameOf,lenB,sumB]
 unfold frame_stands
 have j0 : idx (frameOf b++rest) 0 = some 165:=by rw [hx]; rfl
 have j1 : idx (frameOf b++rest) 1 = some 90:=by rw [hx]; rfl
 have j2 : idx (frameOf b++rest) 2 = some ((b.length : Int) % 256):=by rw [hx]; rfl
 have j3 : idx (frameOf b++rest) 3 = some ((b.length : Int) / 256 % 256):=by rw [hx]; rfl
 have j4 : idx (frameOf b++rest) 4 = some (s % 256):=by rw [hx]; rfl
 have j5 : idx (frameOf b++rest) 5 = some (s / 256 % 256):=by rw [hx]; rfl
 have j6 : idx (frameOf b++rest) 6 = some (s / 65536 % 256):=by rw [hx]; rfl
 have j7 : idx (frameOf b++rest) 7 = some (s / 16777216 % 256):=by rw [hx]; rfl
 have g1 : ¬ ((frameOf b++rest).length : Int) < 8:=by rw [hl]; omega
 rw [j0,j1,j2,j3,j4,j5,j6,j7]
 simp only [gb,g1,decide_false,Bool.not_false,if_true,Option.bind_some,bne_self_eq_false,Bool.or_self,Bool.false_eq_true,if_false]
 have p8 : (2 : Int) ^ min (Int.toNat 8) (IntKind.bits .i64) = 2 ^ 8:=by decide
 have hn : bitI .or .i64 (IntKind.wrap .i64 ((b.length : Int) % 256)) (IntKind.wrap .i64 ((IntKind.wrap .i64 ((b.length : Int) / 256 % 256)) * 2 ^ min (Int.toNat 8) (IntKind.bits .i64))) = (b.length : Int):=by
  rw [p8,wrap_i64 (n:=(b.length : Int) % 256) (by omega) (by omega),wrap_i64 (n:=(b.length : Int) / 256 % 256) (by omega) (by omega),wrap_i64 (by omega) (by omega),or_i64 8 (by omega) (by omega) (by omega) (by omega)]
  omega
 rw [hn,hl]
 have w1 : IntKind.wrap .i64 (8 + (b.length : Int) + rest.length - 8) = (b.length : Int) + rest.length:=by rw [wrap_i64 (by omega) (by omega)]; omega
 have w2 : IntKind.wrap .i64 (8 + (b.length : Int)) = 8 + (b.length : Int):=wrap_i64 (by omega) (by omega)
 rw [w1,w2]
 have c1 : ¬ (4000 < (b.length : Int)):=by omega
 have c2 : ¬ ((b.length : Int) + rest.length < (b.length : Int)):=by omega
 simp only [c1,c2,decide_false,Bool.or_self,Bool.false_eq_true,if_false]
 rw [chk_pos (by unfold slOk; rw [hl]; omega),chk_pos (by unfold slOk; rw [hl]; omega)]
 have s1 : slc (frameOf b++rest) 2 4 = lenB b.length:=by rw [hx]; rfl
 have s2 : slc (frameOf b++rest) 8 (8 + (b.length : Int)) = b:=by
  unfold slc
  have e : (8 + (b.length : Int)).toNat = (frameOf b).length:=by rw [frameOf_len]; omega
  rw [e,List.take_left]
  have : frameOf b = ([165,90]++lenB b.length++sumB (ckS (lenB b.length) b))++b:=rfl
  rw [this]
  exact List.drop_left' rfl
 rw [s1,s2,checksum_eq _ _ (by simp [lenB]) (by omega),hck]
 simp only [Option.bind_some]
 have q8 : (2 : Int) ^ min (Int.toNat 8) (IntKind.bits .u32) = 2 ^ 8:=by decide
 have q16 : (2 : Int) ^ min (Int.toNat 16) (IntKind.bits .u32) = 2 ^ 16:=by decide
 have q24 : (2 : Int) ^ min (Int.toNat 24) (IntKind.bits .u32) = 2 ^ 24:=by decide
 have hs1:=hs.1
 have hs2:=hs.2
 have hsum : bitI .or .u32 (bitI .or .u32 (bitI .or .u32 (IntKind.wrap .u32 (s % 256)) (IntKind.wrap .u32 ((IntKind.wrap .u32 (s / 256 % 256)) * 2 ^ min (Int.toNat 8) (IntKind.bits .u32)))) (IntKind.wrap .u32 ((IntKind.wrap .u32 (s / 65536 % 256)) * 2 ^ min (Int.toNat 16) (IntKind.bits .u32)))) (IntKind.wrap .u32 ((IntKind.wrap .u32 (s / 16777216 % 256)) * 2 ^ min (Int.toNat 24) (IntKind.bits .u32))) = s:=by
  rw [q8,q16,q24]
  rw [wrap_u32 (n:=s % 256) ⟨by omega,by omega⟩,wrap_u32 (n:=s / 256 % 256) ⟨by omega,by omega⟩,wrap_u32 (n:=s / 65536 % 256) ⟨by omega,by omega⟩,wrap_u32 (n:=s / 16777216 % 256) ⟨by omega,by omega⟩]
  rw [wrap_u32 (n:=s / 256 % 256 * 2 ^ 8) ⟨by omega,by omega⟩,wrap_u32 (n:=s / 65536 % 256 * 2 ^ 16) ⟨by omega,by omega⟩,wrap_u32 (n:=s / 16777216 % 256 * 2 ^ 24) ⟨by omega,by omega⟩]
  rw [or_u32 8 (by omega) (by omega) (by omega) (by omega),or_u32 16 (by omega) (by omega) (by omega) (by omega),or_u32 24 (by omega) (by omega) (by omega) (by omega)]
  omega
 rw [hsum]
 simp
def partsOf : Nat→List (List Int)→List frame_Part
 | _,[]=>[]
 | off,b :: bs=>⟨(off : Int),8 + (b.length : Int),b,true⟩ :: partsOf (off + (8 + b.length)) bs
theorem scan_frames : ∀ (bs : List (List Int)) (p : List Int) (off fu : Nat),(∀ b∈bs,b.length≤4000)→p.drop off = bs.flatMap frameOf→off≤p.length→p.length≤1099511627776→bs.length < fu→scanM p fu (off : Int) = some (partsOf off bs)
 | [],p,off,fu,_,h,h1,h2,h3=>by
  obtain ⟨fu,rfl⟩ : ∃ k,fu = k + 1 := ⟨fu - 1,by omega⟩
  have hl : p.length≤off:=by
   have:=congrArg List.length h
   simp at this; omega
  unfold scanM
  have : ¬ ((off : Int) < (p.length : Int)):=by omega
  simp [this,partsOf]
 | b :: bs,p,off,fu,hb,h,h1,h2,h3=>by
  obtain ⟨fu,rfl⟩ : ∃ k,fu = k + 1 := ⟨fu - 1,by omega⟩
  simp only [List.length_cons] at h3
  have hlb:=hb b (List.mem_cons_self ..)
  rw [List.flatMap_cons] at h
  have hlen : p.length = off + (8 + b.length) + (bs.flatMap frameOf).length:=by
   have:=congrArg List.length h
   rw [List.length_drop,List.length_append,frameOf_len] at this; omega
  have hlt : (off : Int) < (p.length : Int):=by omega
  have hw : whileM (E:=Int × Int × Bool) (scanL p) ((off : Int),0,false) = some ((off : Int),8 + (b.length : Int),true):=by
   refine whileM_spec 0 (fun _=>((off : Int),0,false)) rfl (by omega) (fun j hj=>absurd hj (Nat.not_lt_zero _)) ?_
   unfold scanL
   simp only [hlt,decide_true,if_true]
   rw [chk_pos (by unfold slOk; omega),Int.toNat_natCast,h,stands_eq b _ hlb (by omega)]
   rfl
  unfold scanM
  simp only [hlt,decide_true,if_true]
  rw [hw]
  simp only [Option.bind_some,if_true]
  rw [wrap_i64 (n:=(off : Int) + 8) (by omega) (by omega),wrap_i64 (n:=(off : Int) + (8 + (b.length : Int))) (by omega) (by omega)]
  have hs : slc p ((off : Int) + 8) ((off : Int) + (8 + (b.length : Int))) = b:=by
   unfold slc
   have e1 : ((off : Int) + (8 + (b.length : Int))).toNat = off + (8 + b.length):=by omega
   have e2 : ((off : Int) + 8).toNat = off + 8:=by omega
   rw [e1,e2,← List.drop_drop,List.drop_take,Nat.add_sub_cancel_left,h,List.take_left' (frameOf_len b)]
   exact List.drop_left' rfl
  rw [chk_pos (by unfold slOk; omega),hs,chk_pos (by simp [apOk]; omega)]
  have e3 : (off : Int) + (8 + (b.length : Int)) = ((off + (8 + b.length) : Nat) : Int):=by push_cast; omega
  rw [e3,scan_frames bs p (off + (8 + b.length)) fu (fun x hx=>hb x (List.mem_cons_of_mem _ hx)) ?_ (by omega) h2 (by omega)]
  ·simp [partsOf]
  ·rw [← List.drop_drop,h,List.drop_left' (frameOf_len b)]
def ReadsAs (b : List Int) (r : RRec) : Prop:=record_Read b = some (r,0)
theorem fold_reads : ∀ (bs : List (List Int)) (rs : List RRec) (l : List RRec) (lost : Int) (off : Nat),bs.length = rs.length→(∀ (k : Nat) (b : List Int) (r : RRec),bs[k]? = some b→rs[k]? = some r→ReadsAs b r)→l.length + rs.length≤1099511627→foldO readStep (l,lost) (partsOf off bs) = some (l++rs,lost)
 | [],rs,l,lost,off,h1,h2,h3=>by
  have : rs = []:=List.eq_nil_of_length_eq_zero h1.symm
  subst this
  simp [partsOf,foldO]
 | b :: bs,[],l,lost,off,h1,h2,h3=>by simp at h1
 | b :: bs,r :: rs,l,lost,off,h1,h2,h3=>by
  have h0 : ReadsAs b r:=h2 0 b r rfl rfl
  simp only [List.length_cons] at h3 h1
  have step : readStep (l,lost) ⟨(off : Int),8 + (b.length : Int),b,true⟩ = some (l++[r],lost):=by
   unfold readStep
   simp only [if_true]
   rw [h0]
   simp only [Option.bind_some,beq_self_eq_true,if_true]
   rw [chk_pos (by simp [apOk]; omega)]
  simp only [partsOf,foldO,step,Option.bind_some]
  rw [fold_reads bs rs (l++[r]) lost _ (by omega) (fun k b' r' hb hr=>h2 (k + 1) b' r' (by simpa using hb) (by simpa using hr)) (by simp; omega)]
  simp
theorem read_frames (bs : List (List Int)) (rs : List RRec) (hb : ∀ b∈bs,b.length≤4000) (hl : bs.length = rs.length) (hr : ∀ (k : Nat) (b : List Int) (r : RRec),bs[k]? = some b→rs[k]? = some r→ReadsAs b r) (hn : bs.length≤1000000) : recorder_Read (bs.flatMap frameOf) = some (rs,0):=by
 have hlen : (bs.flatMap frameOf).length≤bs.length * 4008:=by
  clear hl hr hn
  induction bs with
  | nil=>simp
  | cons b bs ih=>
   rw [List.flatMap_cons,List.length_append,frameOf_len]
   have:=hb b (List.mem_cons_self ..)
   have:=ih (fun x hx=>hb x (List.mem_cons_of_mem _ hx))
   simp only [List.length_cons,Nat.succ_mul]; omega
 unfold recorder_Read
 rw [chk_pos (by simp only [apOk,List.length_nil,Nat.zero_add]; omega)]
 have hge : bs.length≤(bs.flatMap frameOf).length:=by
  clear hl hr hn hlen hb
  induction bs with
  | nil=>simp
  | cons b bs ih=>rw [List.flatMap_cons,List.length_append,frameOf_len]; simp only [List.length_cons]; omega
 rw [List.nil_append]
 have hs:=scan_frames bs (bs.flatMap frameOf) 0 ((bs.flatMap frameOf).length + 1) hb rfl (Nat.zero_le _) (by omega) (by omega)
 rw [show ((0 : Nat) : Int) = 0 from rfl] at hs
 rw [hs]
 simp only [Option.bind_some]
 have:=fold_reads bs rs [] 0 0 hl hr (by simp; omega)
 simpa using this
def toRef (r : Rk) : e30_Record := ⟨r.gWhat,r.gSeq,r.gEvent.gN,r.gCount⟩
theorem with_entry (K : Kn) (q : e30_Record) (hw : q.gWhat = 1) (hs : 0≤q.gSeq∧q.gSeq < 48) : e30_with K q = if K.gIds q.gSeq.toNat≠0∧K.gIds q.gSeq.toNat≠q.gId then some (K,false) else some (⟨upd K.gIds q.gSeq.toNat q.gId,K.gLost,K.gTotal⟩,true):=by
 unfold e30_with
 have hi : inA 48 q.gSeq := ⟨hs.1,by omega⟩
 rw [if_pos (by simpa using hw),chk_pos hi,chk_pos (fun _=>hi),chk_pos hi]
 by_cases h : K.gIds q.gSeq.toNat≠0∧K.gIds q.gSeq.toNat≠q.gId
 ·rw [if_pos h,if_pos (by simpa using h)]
 ·rw [if_neg h,if_neg (by simpa using h)]
  rfl
theorem with_entry_no (K : Kn) (q : e30_Record) (hw : q.gWhat = 1) (hs : 0≤q.gSeq∧q.gSeq < 48) (h : K.gIds q.gSeq.toNat≠0∧K.gIds q.gSeq.toNat≠q.gId) : e30_with K q = some (K,false):=by rw [with_entry K q hw hs,if_pos h]
theorem with_entry_yes (K : Kn) (q : e30_Record) (hw : q.gWhat = 1) (hs : 0≤q.gSeq∧q.gSeq < 48) (h : ¬ (K.gIds q.gSeq.toNat≠0∧K.gIds q.gSeq.toNat≠q.gId)) : e30_with K q = some (⟨upd K.gIds q.gSeq.toNat q.gId,K.gLost,K.gTotal⟩,true):=by rw [with_entry K q hw hs,if_neg h]
theorem with_lost (K : Kn) (q : e30_Record) (hw : q.gWhat = 2) (hs : 0≤q.gSeq∧0 < q.gCount∧q.gSeq + q.gCount≤48) : ∃ L,e30_with K q = some (⟨K.gIds,L,K.gTotal⟩,true)∧∀ s : Nat,L s = true↔K.gLost s = true∨(q.gSeq≤(s : Int)∧(s : Int) < q.gSeq + q.gCount):=by
 unfold e30_with
 rw [if_neg (by simp [hw]),if_pos (by simpa using hw)]
 have hw1 : IntKind.wrap .i64 (q.gSeq + q.gCount) = q.gSeq + q.gCount:=wrap_i64 (by omega) (by omega)
 have:=whileM_ind (S:=Int × (Nat→Bool)) (E:=(Nat→Int) × (Nat→Bool) × Int) (step:=fun s=>e30_with_L2 K q s.1 s.2) (s0:=(q.gSeq,K.gLost)) (fun s=>q.gSeq≤s.1∧s.1≤q.gSeq + q.gCount∧∀ j : Nat,s.2 j = true↔K.gLost j = true∨(q.gSeq≤(j : Int)∧(j : Int) < s.1)) (fun s=>(q.gSeq + q.gCount - s.1).toNat) (fun e=>e.1 = K.gIds∧e.2.2 = K.gTotal∧∀ s : Nat,e.2.1 s = true↔K.gLost s = true∨(q.gSeq≤(s : Int)∧(s : Int) < q.gSeq + q.gCount)) ⟨Int.le_refl _,by (try dsimp only); omega,fun j=>⟨fun h=>.inl h,fun h=>h.elim id fun h=>by (try dsimp only at h); omega⟩⟩ (by (try dsimp only); omega) ?_
 ·obtain ⟨⟨a,b,c⟩,h1,h2,h3,h4⟩ := this
  dsimp only at h2 h3 h4
  subst h2 h3
  refine ⟨b,?_,h4⟩
  rw [h1]; rfl
 ·rintro ⟨i,f⟩ ⟨h1,h2,h3⟩
  dsimp only at h1 h2 h3 ⊢
  unfold e30_with_L2
  rw [hw1]
  by_cases hc : i < q.gSeq + q.gCount
  ·have wi : IntKind.wrap .i64 (i + 1) = i + 1:=wrap_i64 (by omega) (by omega)
   rw [if_pos (by simpa using hc),chk_pos ⟨by omega,by omega⟩,wi]
   refine .inl ⟨_,rfl,⟨by (try dsimp only); omega,by (try dsimp only); omega,fun j=>?_⟩,by (try dsimp only); omega⟩
   dsimp only
   unfold upd
   by_cases e : j = i.toNat
   ·rw [if_pos e]
    exact ⟨fun _=>.inr ⟨by omega,by omega⟩,fun _=>rfl⟩
   ·rw [if_neg e,h3]
    constructor
    ·rintro (h | h)
     ·exact .inl h
     ·exact .inr ⟨h.1,by omega⟩
    ·rintro (h | h)
     ·exact .inl h
     ·exact .inr ⟨h.1,by omega⟩
  ·rw [if_neg (by simpa using hc)]
   refine .inr ⟨_,rfl,rfl,rfl,fun s=>?_⟩
   rw [h3]
   have : i = q.gSeq + q.gCount:=by omega
   rw [this]
theorem with_end (K : Kn) (q : e30_Record) (hw : q.gWhat = 3) : e30_with K q = if 0≤K.gTotal∧K.gTotal≠q.gSeq then some (K,false) else some (⟨K.gIds,K.gLost,q.gSeq⟩,true):=by
 unfold e30_with
 rw [if_neg (by simp [hw]),if_neg (by simp [hw])]
 by_cases h : 0≤K.gTotal∧K.gTotal≠q.gSeq
 ·rw [if_pos h,if_pos (by simpa using h)]
 ·rw [if_neg h,if_neg (by simpa using h)]
  rfl
theorem with_end_no (K : Kn) (q : e30_Record) (hw : q.gWhat = 3) (h : 0≤K.gTotal∧K.gTotal≠q.gSeq) : e30_with K q = some (K,false):=by rw [with_end K q hw,if_pos h]
theorem with_end_yes (K : Kn) (q : e30_Record) (hw : q.gWhat = 3) (h : ¬ (0≤K.gTotal∧K.gTotal≠q.gSeq)) : e30_with K q = some (⟨K.gIds,K.gLost,q.gSeq⟩,true):=by rw [with_end K q hw,if_neg h]
theorem sound_eq (K : Kn) : ∃ b,e30_sound K = some b∧(b = true↔Sound K):=by
 unfold e30_sound
 have hInd:=forM_ind (S:=Unit) (E:=Bool) (mx:=9223372036854775807) (n:=48) (body:=fun k1 s=>e30_sound_L2 K k1) (s0:=()) (fun k _=>∀ s : Nat,s < k→0≤K.gTotal→K.gTotal≤(s : Int)→K.gIds s = 0∧K.gLost s = false) (fun t=>match t with
  | .next _=>Sound K
  | .done r=>r = false∧¬ Sound K) (by decide) (by decide) (fun s hs=>by omega) ?_ (fun s hs=>hs)
 ·obtain ⟨t,h1,h2⟩ := hInd
  rw [h1]
  cases t with
  | next s=>exact ⟨true,rfl,fun _=>h2,fun _=>rfl⟩
  | done r=>
   obtain ⟨rfl,h3⟩ := h2
   exact ⟨false,rfl,fun h=>(by cases h),fun h=>absurd h h3⟩
 ·intro k s hk hI
  have hk' : k < 48:=by omega
  unfold e30_sound_L2
  rw [chk_pos (fun _=>inA48 hk'),chk_pos (fun _=>inA48 hk'),Int.toNat_natCast]
  by_cases hb : (0≤K.gTotal∧K.gTotal≤(k : Int))∧(K.gIds k≠0∨K.gLost k = true)
  ·rw [if_pos (by simpa using hb)]
   refine .inr ⟨false,rfl,rfl,fun h=>?_⟩
   have:=h k hk' hb.1.1 hb.1.2
   rcases hb.2 with h1 | h1
   ·exact h1 this.1
   ·rw [this.2] at h1; cases h1
  ·rw [if_neg (by simpa using hb)]
   refine .inl ⟨(),rfl,fun q hq h0 h1=>?_⟩
   rcases Nat.lt_or_eq_of_le (Nat.le_of_lt_succ hq) with h | h
   ·exact hI q h h0 h1
   ·subst h
    refine Classical.byContradiction fun hn=>hb ⟨⟨h0,h1⟩,?_⟩
    by_cases hid : K.gIds q = 0
    ·refine .inr ?_
     cases hl : K.gLost q with
     | true=>rfl
     | false=>exact absurd ⟨hid,hl⟩ hn
    ·exact .inl hid
theorem endOf_mem : ∀ {l : List Rk},(endOf l).1 = true→∃ r∈l,r.gWhat = 3∧r.gSeq = (endOf l).2
 | [],h=>by cases h
 | q :: l,h=>by
  unfold endOf at h ⊢
  by_cases hq : q.gWhat = 3
  ·have hb : (q.gWhat == 3) = true:=by simpa using hq
   rw [if_pos hb]
   exact ⟨q,List.mem_cons_self ..,hq,rfl⟩
  ·have hb : ¬ (q.gWhat == 3) = true:=by simpa using hq
   rw [if_neg hb] at h ⊢
   obtain ⟨r,r1,r2⟩ := endOf_mem h
   exact ⟨r,List.mem_cons_of_mem _ r1,r2⟩
structure Small (r : Rk) : Prop where
 ok : RecOk r
 seq : 0≤r.gSeq∧r.gSeq < 48
 what : r.gWhat = 1∨r.gWhat = 2∨r.gWhat = 3
 name : r.gWhat = 1→r.gEvent.gN≠0
 lost : r.gWhat = 2→0 < r.gCount∧r.gSeq + r.gCount≤48
theorem ents_snoc (l : List Rk) (v : Rk) : entsOf (l++[v]) = if v.gWhat = 1 then entsOf l++[v] else entsOf l:=by
 unfold entsOf; rw [List.filter_append,List.filter_cons]
 by_cases h : v.gWhat = 1 <;> simp [h]
theorem lost_snoc (l : List Rk) (v : Rk) : lostOf (l++[v]) = if v.gWhat = 2 then lostOf l++[spanOf v] else lostOf l:=by
 unfold lostOf; rw [List.filter_append,List.filter_cons]
 by_cases h : v.gWhat = 2 <;> simp [h]
theorem end_snoc (l : List Rk) (v : Rk) (h : v.gWhat≠3) : endOf (l++[v]) = endOf l:=by
 induction l with
 | nil=>simp [endOf,h]
 | cons x m ih=>simp only [List.cons_append,endOf,ih]
def OneEnd (l : List Rk) : Prop := ∀ r∈l,∀ q∈l,r.gWhat = 3→q.gWhat = 3→r.gSeq = q.gSeq
theorem mem_ents {l : List Rk} {r : Rk} : r∈entsOf l↔r∈l∧r.gWhat = 1:=by
 unfold entsOf; rw [List.mem_filter]; simp
theorem refAdd_spec (A : Kn) (hA : -1≤A.gTotal∧A.gTotal < 48) (l : List Rk) (hlen : l.length≤1099511627776) (hl : ∀ r∈l,Small r) : ∃ K ok,e30_Add A (l.map toRef) = some (K,ok)∧((ok = true∧Joined A (partRaw l) K∧Sound K∧OneEnd l)∨(ok = false∧K = A∧(Clash A (partRaw l)∨¬ OneEnd l∨∃ K1,Joined A (partRaw l) K1∧¬ Sound K1))):=by
 unfold e30_Add
 have hInd:=forM_ind (S:=(Nat→Int) × (Nat→Bool) × Int) (E:=e30_Known × Bool) (mx:=9223372036854775807) (n:=(List.length (l.map toRef) : Int)) (body:=fun k7 s=>e30_Add_L2 A (l.map toRef) k7 s.1 s.2.1 s.2.2) (s0:=(A.gIds,A.gLost,A.gTotal))
  (fun k s=>Joined A (partRaw (l.take k)) ⟨s.1,s.2.1,s.2.2⟩∧OneEnd (l.take k))
  (fun t=>match t with
   | .next s=>Joined A (partRaw l) ⟨s.1,s.2.1,s.2.2⟩∧OneEnd l
   | .done r=>r = (A,false)∧(Clash A (partRaw l)∨¬ OneEnd l))
  (by rw [List.length_map]; omega) (by omega) ⟨⟨fun s hs i hi=>⟨fun h=>.inl h,fun h=>h.elim id fun ⟨r,hr,_⟩=>(by cases hr)⟩,fun s hs _=>⟨fun h=>.inl h,fun h=>h.elim id fun h=>absurd h (inS_nil _)⟩,fun t ht=>⟨fun h=>.inl h,fun h=>h.elim id fun h=>(by cases h.1)⟩,hA⟩,fun r hr=>by simp at hr⟩ ?_ ?_
 ·obtain ⟨t,t1,t2⟩ := hInd
  rw [t1]
  cases t with
  | done r=>
   obtain ⟨rfl,h⟩ := t2
   refine ⟨A,false,rfl,.inr ⟨rfl,rfl,?_⟩⟩
   rcases h with h | h
   ·exact .inl h
   ·exact .inr (.inl h)
  | next s=>
   obtain ⟨h1,h2⟩ := t2
   simp only [Option.bind_some]
   unfold e30_Add_K1
   obtain ⟨b,b1,b2⟩ := sound_eq ⟨s.1,s.2.1,s.2.2⟩
   rw [b1,Option.bind_some]
   cases b with
   | true=>exact ⟨_,true,rfl,.inl ⟨rfl,h1,b2.1 rfl,h2⟩⟩
   | false=>exact ⟨A,false,rfl,.inr ⟨rfl,rfl,.inr (.inr ⟨_,h1,fun h=>by have:=b2.2 h; cases this⟩)⟩⟩
 ·rintro k ⟨ids,lost,tot⟩ hk ⟨hJ,hO⟩
  rw [List.length_map] at hk
  have hk' : k < l.length:=by omega
  have tk : l.take (k + 1) = l.take k++[l[k]]:=List.take_succ_eq_append_getElem hk'
  have hm:=List.getElem_mem hk'
  have hv:=hl _ hm
  dsimp only at hJ ⊢
  unfold e30_Add_L2
  have gi : idx (l.map toRef) (k : Int) = some (toRef l[k]):=by
   have : k < (l.map toRef).length:=by rw [List.length_map]; exact hk'
   rw [idx_lt this,List.getElem_map]
  rw [gi,Option.bind_some,tk]
  generalize hvv : l[k] = v at hm hv tk ⊢
  have tin : ∀ r∈l.take k,r∈l:=fun r hr=>List.mem_of_mem_take hr
  have oneNo : v.gWhat≠3→OneEnd (l.take k++[v]):=fun h3 r hr q hq r3 q3=>by
   have : ∀ r∈l.take k++[v],r.gWhat = 3→r∈l.take k:=fun r hr r3=>by
    rcases List.mem_append.1 hr with h | h
    ·exact h
    ·rw [List.mem_singleton] at h; subst h; exact absurd r3 h3
   exact hO r (this r hr r3) q (this q hq q3) r3 q3
  rcases hv.what with h1 | h1 | h1
  · -- an entry
   have hseq:=hv.seq
   have e1 : (partRaw (l.take k++[v])).gentries = entsOf (l.take k)++[v]:=by show entsOf _ = _; rw [ents_snoc,if_pos h1]
   have e2 : (partRaw (l.take k++[v])).glost = lostOf (l.take k):=by show lostOf _ = _; rw [lost_snoc,if_neg (by omega)]
   have e3 : endOf (l.take k++[v]) = endOf (l.take k):=end_snoc _ _ (by omega)
   have e4 : (partRaw (l.take k++[v])).gknown = (endOf (l.take k)).1:=by show (endOf _).1 = _; rw [e3]
   have e5 : (partRaw (l.take k++[v])).gtotal = (endOf (l.take k)).2:=by show (endOf _).2 = _; rw [e3]
   have hN:=hv.name h1
   have hst : ((v.gSeq.toNat : Nat) : Int) = v.gSeq:=by omega
   have hs48 : v.gSeq.toNat < 48:=by omega
   by_cases hc : ids v.gSeq.toNat≠0∧ids v.gSeq.toNat≠v.gEvent.gN
   ·rw [with_entry_no ⟨ids,lost,tot⟩ (toRef v) h1 hseq hc,Option.bind_some]
    refine .inr ⟨_,rfl,rfl,.inl ?_⟩
    have vin : v∈(partRaw l).gentries:=mem_ents.2 ⟨hm,h1⟩
    rcases (hJ.ids _ hs48 _ hc.1).1 rfl with h | ⟨r,r1,r2,r3⟩
    ·exact .inl ⟨v,vin,by rw [h]; exact hc.1,by rw [h]; exact hc.2⟩
    ·have r4:=mem_ents.1 r1
     exact .inr (.inl ⟨r,mem_ents.2 ⟨tin r r4.1,r4.2⟩,v,vin,by rw [r2,hst],by rw [r3]; exact hc.2⟩)
   ·rw [with_entry_yes ⟨ids,lost,tot⟩ (toRef v) h1 hseq hc,Option.bind_some]
    refine .inl ⟨_,rfl,⟨fun s hs i hi=>?_,fun s hs hid=>?_,fun t ht=>?_,hJ.rng⟩,oneNo (by omega)⟩
    ·show upd ids v.gSeq.toNat v.gEvent.gN s = i↔_
     rw [e1]
     unfold upd
     have hj:=hJ.ids s hs i hi
     dsimp only at hj
     by_cases es : s = v.gSeq.toNat
     ·rw [if_pos es]
      constructor
      ·intro h; exact .inr ⟨v,by simp,by omega,h⟩
      ·intro h
       have hor : ids s = i∨v.gEvent.gN = i:=by
        rcases h with h | ⟨r,r1,r2,r3⟩
        ·exact .inl (hj.2 (.inl h))
        ·rcases List.mem_append.1 r1 with r1 | r1
         ·exact .inl (hj.2 (.inr ⟨r,r1,r2,r3⟩))
         ·rw [List.mem_singleton] at r1; subst r1; exact .inr r3
       rcases hor with h | h
       ·refine Classical.byContradiction fun hne=>hc ⟨?_,?_⟩
        ·rw [← es,h]; exact hi
        ·rw [← es,h]; exact fun e=>hne e.symm
       ·exact h
     ·rw [if_neg es,hj]
      constructor
      ·rintro (h | ⟨r,r1,r2,r3⟩)
       ·exact .inl h
       ·exact .inr ⟨r,List.mem_append_left _ r1,r2,r3⟩
      ·rintro (h | ⟨r,r1,r2,r3⟩)
       ·exact .inl h
       ·rcases List.mem_append.1 r1 with r1 | r1
        ·exact .inr ⟨r,r1,r2,r3⟩
        ·rw [List.mem_singleton] at r1; subst r1; omega
    ·show lost s = true↔_
     rw [e2]
     have hid' : upd ids v.gSeq.toNat v.gEvent.gN s = 0:=hid
     unfold upd at hid'
     by_cases es : s = v.gSeq.toNat
     ·rw [if_pos es] at hid'; exact absurd hid' hN
     ·rw [if_neg es] at hid'
      exact hJ.lost s hs hid'
    ·show tot = t↔_
     rw [e4,e5]
     exact hJ.tot t ht
  · -- a Lost record
   have hls:=hv.lost h1
   obtain ⟨L,w1,w2⟩ := with_lost ⟨ids,lost,tot⟩ (toRef v) h1 ⟨hv.seq.1,hls.1,hls.2⟩
   rw [w1,Option.bind_some]
   have e1 : (partRaw (l.take k++[v])).gentries = entsOf (l.take k):=by show entsOf _ = _; rw [ents_snoc,if_neg (by omega)]
   have e2 : (partRaw (l.take k++[v])).glost = lostOf (l.take k)++[spanOf v]:=by show lostOf _ = _; rw [lost_snoc,if_pos h1]
   have e3 : endOf (l.take k++[v]) = endOf (l.take k):=end_snoc _ _ (by omega)
   have e4 : (partRaw (l.take k++[v])).gknown = (endOf (l.take k)).1:=by show (endOf _).1 = _; rw [e3]
   have e5 : (partRaw (l.take k++[v])).gtotal = (endOf (l.take k)).2:=by show (endOf _).2 = _; rw [e3]
   refine .inl ⟨(ids,L,tot),rfl,⟨fun s hs i hi=>?_,fun s hs hid=>?_,fun t ht=>?_,hJ.rng⟩,oneNo (by omega)⟩
   ·rw [e1]; exact hJ.ids s hs i hi
   ·show L s = true↔_
    have hj : lost s = true↔A.gLost s = true∨inS (lostOf (l.take k)) (s : Int):=hJ.lost s hs hid
    rw [e2,w2,inS_app,inS_one]
    show (lost s = true∨_)↔_
    rw [hj]
    constructor
    ·rintro ((h | h) | h)
     ·exact .inl h
     ·exact .inr (.inl h)
     ·exact .inr (.inr h)
    ·rintro (h | h | h)
     ·exact .inl (.inl h)
     ·exact .inl (.inr h)
     ·exact .inr h
   ·rw [e4,e5]; exact hJ.tot t ht
  · -- an end
   have e1 : (partRaw (l.take k++[v])).gentries = entsOf (l.take k):=by show entsOf _ = _; rw [ents_snoc,if_neg (by omega)]
   have e2 : (partRaw (l.take k++[v])).glost = lostOf (l.take k):=by show lostOf _ = _; rw [lost_snoc,if_neg (by omega)]
   by_cases hc : 0≤tot∧tot≠v.gSeq
   ·rw [with_end_no ⟨ids,lost,tot⟩ (toRef v) h1 hc,Option.bind_some]
    refine .inr ⟨_,rfl,rfl,?_⟩
    by_cases hone : OneEnd l
    ·rcases (hJ.tot tot hc.1).1 rfl with h | ⟨h,h2⟩
     ·have he:=endOf_some hm h1 hone
      refine .inl (.inr (.inr ⟨by omega,?_,?_⟩))
      ·show (endOf l).1 = true; rw [he]
      ·show A.gTotal≠(endOf l).2; rw [he,h]; exact hc.2
     ·obtain ⟨r,r1,r2,r3⟩ := endOf_mem h
      have:=hone r (tin r r1) v hm r2 h1
      have h2' : (endOf (l.take k)).2 = tot:=h2
      omega
    ·exact .inr hone
   ·rw [with_end_yes ⟨ids,lost,tot⟩ (toRef v) h1 hc,Option.bind_some]
    have hO2 : OneEnd (l.take k++[v]):=by
     have hall : ∀ r∈l.take k++[v],r.gWhat = 3→r.gSeq = v.gSeq:=fun r hr r3=>by
      rcases List.mem_append.1 hr with h | h
      ·have he:=endOf_some h r3 hO
       have:=(hJ.tot r.gSeq (hl r (tin r h)).seq.1).2 (.inr ⟨by show (endOf _).1 = true; rw [he],by show (endOf _).2 = _; rw [he]⟩)
       have ht : tot = r.gSeq:=this
       have:=(hl r (tin r h)).seq.1
       refine Classical.byContradiction fun hne=>hc ⟨by omega,by omega⟩
      ·rw [List.mem_singleton] at h; subst h; rfl
     intro r hr q hq r3 q3
     rw [hall r hr r3,hall q hq q3]
    have he:=endOf_some (l:=l.take k++[v]) (r:=v) (by simp) h1 hO2
    have e4 : (partRaw (l.take k++[v])).gknown = true:=by show (endOf _).1 = _; rw [he]
    have e5 : (partRaw (l.take k++[v])).gtotal = v.gSeq:=by show (endOf _).2 = _; rw [he]
    refine .inl ⟨_,rfl,⟨fun s hs i hi=>?_,fun s hs hid=>?_,fun t ht=>?_,?_⟩,hO2⟩
    ·rw [e1]; exact hJ.ids s hs i hi
    ·rw [e2]; exact hJ.lost s hs hid
    ·show v.gSeq = t↔_
     rw [e4,e5]
     constructor
     ·intro h; exact .inr ⟨rfl,h⟩
     ·rintro (h | h)
      ·have h2:=(hJ.tot t ht).2 (.inl h)
       have h3 : tot = t:=h2
       refine Classical.byContradiction fun hne=>hc ⟨by omega,by omega⟩
      ·exact h.2
    ·have:=hv.seq
     show -1≤v.gSeq∧v.gSeq < 48
     omega
 ·rintro s ⟨h1,h2⟩
  rw [Int.toNat_natCast,List.length_map,List.take_length] at h1 h2
  exact ⟨h1,h2⟩
def zer16 : Nat→Int:=arr 0 [0,0,0,0,0,0,0,0,0,0,0,0,0,0,0,0]
theorem zer16_at (i : Nat) : zer16 i = 0:=by
 unfold zer16 arr
 match i with
 | 0 | 1 | 2 | 3 | 4 | 5 | 6 | 7 | 8 | 9 | 10 | 11 | 12 | 13 | 14 | 15=>rfl
 | n + 16=>rfl
structure RawOk (x : w30_Raw) : Prop where
 what : 0≤x.gWhat∧x.gWhat≤255
 seq : 0≤x.gSeq∧x.gSeq≤255
 id : 0≤x.gId∧x.gId≤255
 count : 0≤x.gCount∧x.gCount≤255
def mkE (c s i : Int) : Rk := ⟨c,s,⟨upd zer16 c.toNat 1⟩,1,⟨s,c,3,0,i,0,0,0,[]⟩,0⟩
def mkR (c : Int) (x : w30_Raw) : Rk :=
 if x.gWhat % 4 = 2 then ⟨c,x.gSeq % 40,⟨zer16⟩,2,⟨0,0,0,0,0,0,0,0,[]⟩,1 + x.gCount % 8⟩
 else if x.gWhat % 4 = 3 then ⟨c,x.gSeq % 40,⟨zer16⟩,3,⟨0,0,0,0,0,0,0,0,[]⟩,0⟩
 else mkE c (x.gSeq % 40) (1 + x.gId % 3)
theorem tick_eq (c : Int) (hc : 0≤c∧c < 16) : VClk_Tick ⟨zer16⟩ c = some ⟨upd zer16 c.toNat 1⟩ := by
 unfold VClk_Tick
 have hi : inA 16 c := ⟨hc.1,by omega⟩
 dsimp only
 have hz : decide (zer16 c.toNat < 18446744073709551615) = true:=by rw [decide_eq_true_eq,zer16_at]; decide
 rw [chk_pos (fun _=>hi),if_pos (by simp only [hz,Bool.and_eq_true,decide_eq_true_eq]; exact ⟨⟨hc.1,hc.2⟩,trivial⟩),chk_pos hi,chk_pos hi,zer16_at]
 rfl
theorem make_eq (x : w30_Raw) (c : Int) (hx : RawOk x) (hc : 0≤c∧c≤8) : w30_Raw_make x c = some (mkR c x,toRef (mkR c x)):=by
 obtain ⟨⟨a1,a2⟩,⟨b1,b2⟩,⟨c1,c2⟩,⟨d1,d2⟩⟩ := hx
 have w1 : IntKind.wrap .i64 (x.gSeq % 40) = x.gSeq % 40:=wrap_i64 (by omega) (by omega)
 have w2 : IntKind.wrap .u64 (x.gSeq % 40) = x.gSeq % 40:=wrap_u64 (by omega) (by omega)
 have w3 : IntKind.wrap .i64 (x.gCount % 8) = x.gCount % 8:=wrap_i64 (by omega) (by omega)
 have w4 : IntKind.wrap .i64 (1 + x.gCount % 8) = 1 + x.gCount % 8:=wrap_i64 (by omega) (by omega)
 have w5 : IntKind.wrap .u64 (1 + x.gCount % 8) = 1 + x.gCount % 8:=wrap_u64 (by omega) (by omega)
 have w6 : IntKind.wrap .i64 (x.gId % 3) = x.gId % 3:=wrap_i64 (by omega) (by omega)
 have w7 : IntKind.wrap .i64 (1 + x.gId % 3) = 1 + x.gId % 3:=wrap_i64 (by omega) (by omega)
 unfold w30_Raw_make
 rw [chk_pos ⟨b1,by decide⟩,chk_pos ⟨a1,by decide⟩]
 simp only [w1,w2,w3,w4,w5,w6,w7]
 unfold mkR
 by_cases h2 : x.gWhat % 4 = 2
 ·rw [if_pos (by simpa using h2),chk_pos ⟨d1,by decide⟩,if_pos h2]
  rfl
 ·rw [if_neg (by simpa using h2),if_neg h2]
  by_cases h3 : x.gWhat % 4 = 3
  ·rw [if_pos (by simpa using h3),if_pos h3]
   rfl
  ·rw [if_neg (by simpa using h3),if_neg h3,chk_pos ⟨c1,by decide⟩]
   have:=tick_eq c ⟨hc.1,by omega⟩
   unfold zer16 at this
   rw [this]
   rfl
theorem ck_fits {f : Nat→Int} (h : ∀ i,0≤f i∧f i≤1) : ckFits ⟨f⟩ = true:=by
 unfold ckFits
 rw [List.all_eq_true]
 intro i _
 have:=h i
 rw [okI_iff]
 exact ⟨this.1,by have:=this.2; show f i≤18446744073709551615; omega⟩
theorem mkE_ok (c s i : Int) (hc : 0≤c∧c≤8) (hs : 0≤s∧s < 48) (hi : 1≤i∧i≤255) : reFits (mkE c s i) = true∧validB (reOf (mkE c s i)) = true:=by
 have hck : ckFits (mkE c s i).gClock = true:=ck_fits fun j=>by
  show 0≤upd zer16 c.toNat 1 j∧upd zer16 c.toNat 1 j≤1
  unfold upd
  rw [zer16_at]
  split <;> omega
 constructor
 ·unfold reFits
  rw [hck]
  simp only [mkE,evFits,List.all_nil,List.length_nil,Bool.and_eq_true,okI_iff,decide_eq_true_eq]
  have j : ∀ v : Int,0≤v∧v≤255→InR .i64 v∧InR .u64 v∧InR .u8 v:=fun v hv=>⟨⟨by show -9223372036854775808≤v; omega,by show v≤9223372036854775807; omega⟩,⟨hv.1,by show v≤18446744073709551615; omega⟩,hv⟩
  have jc:=j c (by omega)
  have js:=j s (by omega)
  have j0:=j 0 (by omega)
  have j1:=j 1 (by omega)
  have j3:=j 3 (by omega)
  have ji:=j i (by omega)
  exact ⟨⟨⟨⟨⟨jc.1,js.2.1⟩,trivial⟩,j1.2.2⟩,⟨⟨⟨⟨⟨⟨⟨⟨⟨js.1,jc.1⟩,j3.2.2⟩,j0.1⟩,ji.1⟩,j0.1⟩,j0.1⟩,j0.1⟩,trivial⟩,rfl⟩⟩,j0.2.1⟩
 ·simp only [validB,okWhat,evOk,reOf,evOf,mkE,inB,if_true,beq_self_eq_true,Bool.and_eq_true,decide_eq_true_eq,List.length_nil,true_and,and_true]
  exact ⟨⟨⟨⟨⟨⟨⟨⟨decide_eq_true ⟨by omega,by omega⟩,rfl⟩,rfl⟩,rfl⟩,decide_eq_true ⟨by omega,by omega⟩⟩,rfl⟩,rfl⟩,rfl⟩,decide_eq_true ⟨by omega,by omega⟩⟩
theorem mkR_ok (c : Int) (x : w30_Raw) (hc : 0≤c∧c≤8) (hx : RawOk x) : reFits (mkR c x) = true∧validB (reOf (mkR c x)) = true:=by
 obtain ⟨⟨a1,a2⟩,⟨b1,b2⟩,⟨c1,c2⟩,⟨d1,d2⟩⟩ := hx
 have hz : ckFits ⟨zer16⟩ = true:=ck_fits fun i=>by rw [zer16_at]; omega
 have hs : sameTo (fun i=>if i < 16 then zer16 i else 0) clk0 16 = true:=(sameTo_iff _ _ _).2 fun i hi=>by rw [if_pos hi,zer16_at]; rfl
 unfold mkR
 by_cases h2 : x.gWhat % 4 = 2
 ·rw [if_pos h2]
  constructor
  ·unfold reFits
   rw [hz]
   simp [okI,InR,evFits,IntKind.min,IntKind.max,IntKind.signed,IntKind.bits]
   omega
  ·simp [validB,okWhat,bareB,reOf,evOf,hs,inB,evEq,ev0]
   omega
 ·rw [if_neg h2]
  by_cases h3 : x.gWhat % 4 = 3
  ·rw [if_pos h3]
   constructor
   ·unfold reFits
    rw [hz]
    simp [okI,InR,evFits,IntKind.min,IntKind.max,IntKind.signed,IntKind.bits]
    omega
   ·simp [validB,okWhat,bareB,reOf,evOf,hs,inB,evEq,ev0]
    omega
  ·rw [if_neg h3]
   exact mkE_ok c _ _ hc ⟨by omega,by omega⟩ ⟨by omega,by omega⟩
theorem fits_ofRe {y : Re} (hT : ReT y) (ha : y.ev.args.length≤4) : reFits (ofRe y) = true:=by
 have h1:=hT.comp
 have h2:=hT.seq
 have h3:=hT.clk
 have h4:=hT.what
 have h5:=hT.ev
 have h6:=hT.count
 unfold reFits ckFits evFits
 simp only [Bool.and_eq_true,List.all_eq_true,okI_iff,decide_eq_true_eq]
 have e1:=h5.tick
 have e2:=h5.comp
 have e3:=h5.kind
 have e4:=h5.peer
 have e5:=h5.n
 have e6:=h5.copy
 have e7:=h5.handler
 have e8:=h5.d
 have e9:=h5.args
 simp only [I64,U64] at *
 have u : ∀ v : Int,0≤v∧v < 18446744073709551616→InR .u64 v:=fun v hv=>⟨hv.1,by show v≤18446744073709551615; omega⟩
 exact ⟨⟨⟨⟨⟨h1,u _ h2⟩,fun i _=>u _ (h3 i)⟩,h4⟩,⟨⟨⟨⟨⟨⟨⟨⟨⟨e1,e2⟩,e3⟩,e4⟩,e5⟩,e6⟩,e7⟩,e8⟩,e9⟩,by show y.ev.args.length≤_; omega⟩⟩,u _ h6⟩
theorem reOf_ofRe (y : Re) : recEq (reOf (ofRe y)) y = true:=recEq_iff.2 ⟨rfl,rfl,fun i hi=>by simp [reOf,ofRe,hi],rfl,rfl,rfl⟩
theorem recEq_tr {a b c : Re} (h : recEq a b = true) (k : recEq b c = true) : recEq a c = true:=by
 obtain ⟨h1,h2,h3,h4,h5,h6⟩ := recEq_iff.1 h
 obtain ⟨k1,k2,k3,k4,k5,k6⟩ := recEq_iff.1 k
 exact recEq_iff.2 ⟨h1.trans k1,h2.trans k2,fun i hi=>(h3 i hi).trans (k3 i hi),h4.trans k4,h5.trans k5,h6.trans k6⟩
theorem rec_reads (r : Rk) (hf : reFits r = true) (hv : validB (reOf r) = true) : ∃ q,ReadsAs (recBytes (reOf r)) q∧Eqr q r∧reFits q = true∧(recBytes (reOf r)).length≤400:=by
 have hT:=(reFits_T hf).1
 obtain ⟨y,y1,y2⟩ := readRec_of hv hT
 have hb:=recBytes_byt hT
 have hl:=recBytes_small hT
 obtain ⟨z1,z2,z3,z4⟩ := readRec_ok hb (by omega) y2
 refine ⟨ofRe y,?_,?_,fits_ofRe z3 z4,hl⟩
 ·unfold ReadsAs record_Read
  have hbo : bytOk (recBytes (reOf r)) = true:=by
   unfold bytOk
   simp only [Bool.and_eq_true,List.all_eq_true,okI_iff,decide_eq_true_eq]
   exact ⟨fun b h=>⟨(hb b h).1,(hb b h).2⟩,by omega⟩
  rw [chk_pos hbo,y2]
 ·exact recEq_tr (reOf_ofRe y) y1
def GE (c : Int) (r : Rk) : Prop:=reFits r = true∧∃ s i,(0≤s∧s < 48)∧(1≤i∧i≤255)∧Eqr r (mkE c s i)
theorem eqr_all {x y : Rk} (h : Eqr x y) : x.gComponent = y.gComponent∧x.gSeq = y.gSeq∧x.gWhat = y.gWhat∧x.gEvent.gN = y.gEvent.gN∧x.gCount = y.gCount:=by
 obtain ⟨h1,h2,h3,h4,h5,h6⟩ := recEq_iff.1 h
 exact ⟨h1,h2,h4,congrArg Ev.n h5,h6⟩
theorem good_GE (c : Int) : Good c (GE c):=by
 refine ⟨fun r ⟨hf,s,i,hs,hi,he⟩=>?_,fun r ⟨hf,s,i,hs,hi,he⟩=>?_,fun r ⟨hf,s,i,hs,hi,he⟩=>?_,fun r ⟨hf,s,i,hs,hi,he⟩=>?_,fun r h=>h.1,fun r q ⟨hf,s,i,hs,hi,he⟩ ⟨hf',s',i',hs',hi',he'⟩ h1 h2=>?_⟩
 ·have:=he.seq; show 0≤r.gSeq∧r.gSeq < 48; rw [this]; exact hs
 ·rw [(eqr_all he).2.2.2.1]; show i≠0; omega
 ·rw [(eqr_all he).2.2.1]; rfl
 ·rw [(eqr_all he).1]; rfl
 ·have e1 : s = s' := by have a:=he.seq; have b:=he'.seq; have a' : r.gSeq = s:=a; have b' : q.gSeq = s' := b; omega
  have e2 : i = i' := by have a : r.gEvent.gN = i:=(eqr_all he).2.2.2.1; have b : q.gEvent.gN = i' := (eqr_all he').2.2.2.1; omega
  subst e1 e2
  exact he.trans he'.symm
theorem GE_up (c : Int) (r q : Rk) (h : GE c r) (he : Eqr q r) (hf : reFits q = true) : GE c q:=by
 obtain ⟨_,s,i,hs,hi,h⟩ := h
 exact ⟨hf,s,i,hs,hi,he.trans h⟩
theorem toRef_congr {x y : Rk} (h : Eqr x y) : toRef x = toRef y:=by
 obtain ⟨h1,h2,h3,h4,h5⟩ := eqr_all h
 unfold toRef; rw [h2,h3,h4,h5]
structure Reads (c : Int) (r : Rk) : Prop where
 small : Small r
 comp : r.gComponent = c
 good : r.gWhat = 1→GE c r
theorem reads_of {c : Int} {x : w30_Raw} (hc : 0≤c∧c≤8) (hx : RawOk x) {r : Rk} (he : Eqr r (mkR c x)) (hf : reFits r = true) : Reads c r:=by
 obtain ⟨h1,h2,h3,h4,h5⟩ := eqr_all he
 obtain ⟨⟨a1,a2⟩,⟨b1,b2⟩,⟨c1,c2⟩,⟨d1,d2⟩⟩ := hx
 unfold mkR at h1 h2 h3 h4 h5 he
 by_cases w2 : x.gWhat % 4 = 2
 ·rw [if_pos w2] at h1 h2 h3 h4 h5
  simp only at h1 h2 h3 h4 h5
  refine ⟨⟨⟨hf,fun _=>⟨by omega,by omega⟩⟩,by omega,by omega,fun h=>by omega,fun _=>⟨by omega,by omega⟩⟩,h1,fun h=>by omega⟩
 ·rw [if_neg w2] at h1 h2 h3 h4 h5 he
  by_cases w3 : x.gWhat % 4 = 3
  ·rw [if_pos w3] at h1 h2 h3 h4 h5
   simp only at h1 h2 h3 h4 h5
   refine ⟨⟨⟨hf,fun h=>by omega⟩,by omega,by omega,fun h=>by omega,fun h=>by omega⟩,h1,fun h=>by omega⟩
  ·rw [if_neg w3] at h1 h2 h3 h4 h5 he
   simp only [mkE] at h1 h2 h3 h4 h5
   refine ⟨⟨⟨hf,fun h=>by omega⟩,by omega,by omega,fun h=>by omega,fun h=>by omega⟩,h1,fun h=>⟨hf,_,_,⟨by omega,by omega⟩,⟨by omega,by omega⟩,he⟩⟩
structure FileOk (f : w30_File) : Prop where
 comp : 0≤f.gComponent∧f.gComponent≤255
 recs : ∀ x∈f.gRecords,RawOk x
theorem flat_frames_len (bs : List (List Int)) (h : ∀ b∈bs,b.length≤400) : (bs.flatMap frameOf).length≤bs.length * 408:=by
 induction bs with
 | nil=>simp
 | cons b bs ih=>
  rw [List.flatMap_cons,List.length_append,frameOf_len]
  have:=h b (List.mem_cons_self ..)
  have:=ih fun x hx=>h x (List.mem_cons_of_mem _ hx)
  simp only [List.length_cons,Nat.succ_mul]; omega
def fileC (f : w30_File) (n : Int) : Int:=f.gComponent % (n + 1)
def fileX (f : w30_File) : List w30_Raw:=f.gRecords.take 12
def fileB (c : Int) (xs : List w30_Raw) : List (List Int):=xs.map fun x=>recBytes (reOf (mkR c x))
theorem bytes_eq (f : w30_File) (n : Int) (hn : 1≤n∧n≤8) (hf : FileOk f) : w30_File_bytes f n = some (fileC f n,(fileB (fileC f n) (fileX f)).flatMap frameOf,(fileX f).map fun x=>toRef (mkR (fileC f n) x)):=by
 have w0 : IntKind.wrap .i64 f.gComponent = f.gComponent:=wrap_i64 (by have:=hf.comp; omega) (by have:=hf.comp; omega)
 have w1 : IntKind.wrap .i64 (n + 1) = n + 1:=wrap_i64 (by omega) (by omega)
 have hc : 0≤fileC f n∧fileC f n≤8:=by
  unfold fileC
  have:=hf.comp
  have h1:=Int.emod_nonneg f.gComponent (show n + 1≠0 by omega)
  have h2:=Int.emod_lt_of_pos f.gComponent (show 0 < n + 1 by omega)
  omega
 unfold w30_File_bytes
 rw [w0,w1,chk_pos ⟨hf.comp.1,by omega⟩]
 have hxs : ∀ x∈fileX f,RawOk x:=fun x hx=>hf.recs x (List.mem_of_mem_take hx)
 have hxl : (fileX f).length = min 12 f.gRecords.length:=by unfold fileX; rw [List.length_take]
 have hlen : ∀ j,(((fileB (fileC f n) ((fileX f).take j)).flatMap frameOf).length≤4896):=by
  intro j
  have h1:=flat_frames_len (fileB (fileC f n) ((fileX f).take j)) (fun b hb=>by
   obtain ⟨x,hx,rfl⟩ := List.mem_map.1 hb
   have:=mkR_ok _ _ hc (hxs x (List.mem_of_mem_take hx))
   exact recBytes_small (reFits_T this.1).1)
  have h2 : (fileB (fileC f n) ((fileX f).take j)).length≤12:=by
   unfold fileB; rw [List.length_map,List.length_take]; omega
  have:=Nat.mul_le_mul_right 408 h2
  omega
 rw [whileM_spec (s0:=(([] : List Int),([] : List e30_Record),(0 : Int))) (e:=.inl ((fileB (fileC f n) (fileX f)).flatMap frameOf,(fileX f).map fun x=>toRef (mkR (fileC f n) x))) (fileX f).length (fun j=>((fileB (fileC f n) ((fileX f).take j)).flatMap frameOf,((fileX f).take j).map fun x=>toRef (mkR (fileC f n) x),(j : Int))) (by simp [fileB]) (by omega) (fun j hj=>?_) ?_]
 ·simp only [Option.bind_some]
  unfold w30_File_bytes_K1
  rw [w0,w1]
  rfl
 ·unfold w30_File_bytes_L2
  have hd : ((decide (((fileX f).length : Int) < (List.length f.gRecords : Int))) && (decide (((fileX f).length : Int) < 12))) = false:=by
   rw [Bool.eq_false_iff]
   simp only [ne_eq,Bool.and_eq_true,decide_eq_true_eq]; omega
  dsimp only
  rw [hd]
  simp
 ·have hj1 : j < f.gRecords.length:=by omega
  have hj2 : j < 12:=by omega
  unfold w30_File_bytes_L2
  have hd : ((decide ((j : Int) < (List.length f.gRecords : Int))) && (decide ((j : Int) < 12))) = true:=by
   simp only [Bool.and_eq_true,decide_eq_true_eq]; omega
  dsimp only
  rw [hd,if_pos rfl,idx_lt hj1,Option.bind_some,w0,w1]
  have hgx : f.gRecords[j] = (fileX f)[j]:=(List.getElem_take (xs:=f.gRecords) (j:=12) (i:=j) (h:=hj)).symm
  rw [hgx]
  have hx:=hxs _ (List.getElem_mem hj)
  generalize hxv : (fileX f)[j] = x at hx
  have tk : (fileX f).take (j + 1) = (fileX f).take j++[x]:=by rw [List.take_succ_eq_append_getElem hj,hxv]
  have hm:=make_eq x (fileC f n) hx hc
  have hmk:=mkR_ok _ _ hc hx
  have hm' : w30_Raw_make x (f.gComponent % (n + 1)) = some (mkR (fileC f n) x,toRef (mkR (fileC f n) x)):=hm
  rw [hm',Option.bind_some]
  have hb : RRec_Bytes (mkR (fileC f n) x) = some (recBytes (reOf (mkR (fileC f n) x))):=by unfold RRec_Bytes; rw [chk_pos hmk.1]
  dsimp only
  have hl:=hlen j
  have hbl:=recBytes_small (reFits_T hmk.1).1
  rw [hb,Option.bind_some,append_eq _ _ (by omega) (by omega),Option.bind_some]
  dsimp only
  rw [if_neg (by decide),chk_pos (by simp [apOk]; omega)]
  have wj : IntKind.wrap .i64 ((j : Int) + 1) = ((j + 1 : Nat) : Int):=by rw [wrap_i64 (by omega) (by omega)]; omega
  rw [wj,tk]
  simp [fileB]
theorem fileC_rng (f : w30_File) (n : Int) (hn : 1≤n∧n≤8) : 0≤fileC f n∧fileC f n≤n:=by
 unfold fileC
 have h1:=Int.emod_nonneg f.gComponent (show n + 1≠0 by omega)
 have h2:=Int.emod_lt_of_pos f.gComponent (show 0 < n + 1 by omega)
 omega
theorem reads_list (c : Int) (hc : 0≤c∧c≤8) : ∀ xs : List w30_Raw,(∀ x∈xs,RawOk x)→∃ rs : List Rk,rs.length = xs.length∧(∀ (k : Nat) (b : List Int) (r : Rk),(fileB c xs)[k]? = some b→rs[k]? = some r→ReadsAs b r)∧(∀ r∈rs,Reads c r)∧(rs.map toRef = xs.map fun x=>toRef (mkR c x))∧∀ b∈fileB c xs,b.length≤400
 | [],_=>⟨[],rfl,fun k b r h=>by simp [fileB] at h,fun r hr=>(by cases hr),rfl,fun b hb=>by simp [fileB] at hb⟩
 | x :: xs,h=>by
  obtain ⟨rs,h1,h2,h3,h4,h5⟩ := reads_list c hc xs fun y hy=>h y (List.mem_cons_of_mem _ hy)
  have hx:=h x (List.mem_cons_self ..)
  have hm:=mkR_ok c x hc hx
  obtain ⟨q,q1,q2,q3,q4⟩ := rec_reads _ hm.1 hm.2
  refine ⟨q :: rs,by simp [h1],fun k b r hb hr=>?_,fun r hr=>?_,?_,fun b hb=>?_⟩
  ·cases k with
   | zero=>
    simp [fileB] at hb hr
    subst hb hr
    exact q1
   | succ k=>exact h2 k b r (by simpa [fileB] using hb) (by simpa using hr)
  ·rcases List.mem_cons.1 hr with rfl | hr
   ·exact reads_of hc hx q2 q3
   ·exact h3 r hr
  ·rw [List.map_cons,List.map_cons,h4,toRef_congr q2]
  ·rcases List.mem_cons.1 hb with rfl | hb
   ·exact q4
   ·exact h5 b hb
theorem file_read (f : w30_File) (n : Int) (hn : 1≤n∧n≤8) (hf : FileOk f) : ∃ (p : List Int) (rs : List Rk),w30_File_bytes f n = some (fileC f n,p,rs.map toRef)∧recorder_Read p = some (rs,0)∧(∀ r∈rs,Reads (fileC f n) r)∧rs.length≤12:=by
 have hc:=fileC_rng f n hn
 obtain ⟨rs,h1,h2,h3,h4,h5⟩ := reads_list (fileC f n) ⟨hc.1,by omega⟩ (fileX f) fun x hx=>hf.recs x (List.mem_of_mem_take hx)
 have hxl : (fileX f).length = min 12 f.gRecords.length:=by unfold fileX; rw [List.length_take]
 refine ⟨_,rs,?_,read_frames (fileB (fileC f n) (fileX f)) rs (fun b hb=>by have:=h5 b hb; omega) (by unfold fileB; rw [List.length_map,h1]) h2 (by unfold fileB; rw [List.length_map]; omega),h3,by omega⟩
 rw [bytes_eq f n hn hf,h4]
theorem awake30 : w30_awake = some true:=by kernel_rfl
structure Inv (n : Nat) (parts : List CPart) (Ks : List Kn) : Prop where
 len : parts.length = n + 1
 lenK : Ks.length = n + 1
 rel : ∀ (i : Nat) (hi : i < parts.length) (hi2 : i < Ks.length),Rel (GE (i : Int)) parts[i] Ks[i]
theorem Inv.agrees {n : Nat} {parts : List CPart} {Ks : List Kn} (h : Inv n parts Ks) (hn : n≤8) : w30_agrees_a ⟨parts⟩ Ks = some true :=
 agrees_eq (G:=fun i=>GE (i : Int)) parts Ks (by rw [h.len,h.lenK]) (by rw [h.len]; omega) (by rw [h.len]; omega) (fun i=>good_GE _) h.rel
theorem reads_news {c : Int} {rs : List Rk} (h : ∀ r∈rs,Reads c r) (hl : rs.length≤68719476736) : News (GE c) (partRaw rs):=by
 refine ⟨fun r hr=>?_,fun x hx=>?_,(partRaw_W hl fun r hr=>(h r hr).small.ok).tot⟩
 ·have:=mem_ents.1 hr
  exact (h r this.1).good this.2
 ·obtain ⟨s,s1,s2,s3⟩ := hx
  obtain ⟨r,r1,rfl⟩ := List.mem_map.1 s1
  have r2:=List.mem_filter.1 r1
  have r3 : r.gWhat = 2:=by simpa using r2.2
  have hs:=(h r r2.1).small
  have h1:=hs.lost r3
  have h2:=hs.seq
  simp only [spanOf] at s2 s3
  omega
theorem Inv.set {n : Nat} {parts : List CPart} {Ks : List Kn} (h : Inv n parts Ks) {c : Nat} (hc : c < n + 1) {m : CPart} {K : Kn} (hR : Rel (GE (c : Int)) m K) : Inv n (parts.set c m) (Ks.set c K):=by
 refine ⟨by rw [List.length_set]; exact h.len,by rw [List.length_set]; exact h.lenK,fun i hi hi2=>?_⟩
 rw [List.getElem_set,List.getElem_set]
 by_cases e : c = i
 ·subst e; rw [if_pos rfl,if_pos rfl]; exact hR
 ·rw [if_neg e,if_neg e]
  exact h.rel i (by rw [List.length_set] at hi; exact hi) (by rw [List.length_set] at hi2; exact hi2)
theorem set_self {α : Type} (l : List α) (i : Nat) (h : i < l.length) : l.set i l[i] = l:=by
 apply List.ext_getElem?
 intro k
 rw [List.getElem?_set]
 by_cases e : i = k
 ·subst e; rw [if_pos rfl,if_pos h,List.getElem?_eq_getElem h]
 ·rw [if_neg e]
theorem add_step {n : Nat} {parts : List CPart} {Ks : List Kn} (h : Inv n parts Ks) (hn : n≤8) (c : Nat) (hc : c < n + 1) (p : List Int) (rs : List Rk) (lost : Int) (hr : recorder_Read p = some (rs,lost)) (hrs : ∀ r∈rs,Reads (c : Int) r) (hl : rs.length≤1000000) :
  ∃ K ok e parts',e30_Add (Ks[c]'(by rw [h.lenK]; exact hc)) (rs.map toRef) = some (K,ok)∧CColl_Add_a (c : Int) p ⟨parts⟩ = some (e,⟨parts'⟩)∧((ok = true∧e = 0)∨(ok = false∧e = 14∧parts' = parts∧K = Ks[c]'(by rw [h.lenK]; exact hc)))∧Inv n parts' (Ks.set c K):=by
 have hcp : c < parts.length:=by rw [h.len]; exact hc
 have hck : c < Ks.length:=by rw [h.lenK]; exact hc
 have hR:=h.rel c hcp hck
 have hG:=good_GE (c : Int)
 have hN:=reads_news hrs (by omega)
 have hW:=partRaw_W (l:=rs) (by omega) fun r hr=>(hrs r hr).small.ok
 obtain ⟨K,ok,k1,k2⟩ := refAdd_spec Ks[c] hR.rng rs (by omega) fun r hr=>(hrs r hr).small
 have hcomp : ∀ r∈rs,r.gComponent = (c : Int):=fun r hr=>(hrs r hr).comp
 have hd : ¬ ((decide ((c : Int) < 0)) || (decide ((List.length parts : Int)≤(c : Int)))) = true:=by
  simp only [Bool.or_eq_true,decide_eq_true_eq]; omega
 have no : ¬ Fit2 parts[c] (partRaw rs)∨¬ partFit rs (c : Int)→CColl_Add_a (c : Int) p ⟨parts⟩ = some (14,⟨parts⟩):=by
  intro hno
  unfold CColl_Add_a
  dsimp only
  rw [if_neg hd,hr,Option.bind_some]
  rcases partOf_spec rs (c : Int) (by omega) (fun r hr=>(hrs r hr).small.ok) with ⟨_,q2⟩ | ⟨q1,q2⟩
  ·dsimp only; rw [q2]; rfl
  ·dsimp only
   rw [q2,Option.bind_some]
   simp only [Bool.not_true,Bool.false_eq_true,if_false,idx_lt hcp,Option.bind_some]
   rcases merge_spec parts[c] (partRaw rs) (hR.PW hG) hW with ⟨_,m2⟩ | ⟨m1,_⟩
   ·rw [m2]; rfl
   ·rcases hno with h1 | h1
    ·exact absurd m1 h1
    ·exact absurd q1 h1
 have fail : ok = false→K = Ks[c]→(¬ Fit2 parts[c] (partRaw rs)∨¬ partFit rs (c : Int))→∃ K ok e parts',e30_Add Ks[c] (rs.map toRef) = some (K,ok)∧CColl_Add_a (c : Int) p ⟨parts⟩ = some (e,⟨parts'⟩)∧((ok = true∧e = 0)∨(ok = false∧e = 14∧parts' = parts∧K = Ks[c]))∧Inv n parts' (Ks.set c K):=by
  intro h1 h2 h3
  refine ⟨K,ok,14,parts,k1,no h3,.inr ⟨h1,rfl,rfl,h2⟩,?_⟩
  rw [h2,set_self _ _ hck]; exact h
 rcases k2 with ⟨rfl,j1,j2,j3⟩ | ⟨rfl,rfl,j1 | j1 | ⟨K1,j1,j2⟩⟩
 ·have hF:=(join_fit hG hR hN j1).2 j2
  have hpf : partFit rs (c : Int) := ⟨hcomp,j3⟩
  rcases merge_spec parts[c] (partRaw rs) (hR.PW hG) hW with ⟨m1,_⟩ | ⟨_,m,m2,m3⟩
  ·exact absurd hF m1
  ·have hRel:=join_rel hG (GE_up _) hR hN j1 hF m3
   refine ⟨K,true,0,parts.set c m,k1,?_,.inl ⟨rfl,rfl⟩,h.set hc hRel⟩
   unfold CColl_Add_a
   dsimp only
   rw [if_neg hd,hr,Option.bind_some]
   rcases partOf_spec rs (c : Int) (by omega) (fun r hr=>(hrs r hr).small.ok) with ⟨q1,_⟩ | ⟨_,q2⟩
   ·exact absurd hpf q1
   ·dsimp only
    rw [q2,Option.bind_some]
    simp only [Bool.not_true,Bool.false_eq_true,if_false,idx_lt hcp,Option.bind_some,m2,Int.toNat_natCast]
 ·exact fail rfl rfl (.inl (clash_not hG hR hN j1))
 ·exact fail rfl rfl (.inr fun h=>j1 h.2)
 ·exact fail rfl rfl (.inl fun hF=>j2 ((join_fit hG hR hN j1).1 hF))
def kn0 : Kn := ⟨arr 0 [0,0,0,0,0,0,0,0,0,0,0,0,0,0,0,0,0,0,0,0,0,0,0,0,0,0,0,0,0,0,0,0,0,0,0,0,0,0,0,0,0,0,0,0,0,0,0,0],arr false [false,false,false,false,false,false,false,false,false,false,false,false,false,false,false,false,false,false,false,false,false,false,false,false,false,false,false,false,false,false,false,false,false,false,false,false,false,false,false,false,false,false,false,false,false,false,false,false],-1⟩
theorem kn0_ids (i : Nat) : kn0.gIds i = 0:=by
 show arr 0 [0,0,0,0,0,0,0,0,0,0,0,0,0,0,0,0,0,0,0,0,0,0,0,0,0,0,0,0,0,0,0,0,0,0,0,0,0,0,0,0,0,0,0,0,0,0,0,0] i = 0
 unfold arr
 match i with
 | 0 | 1 | 2 | 3 | 4 | 5 | 6 | 7 | 8 | 9 | 10 | 11 | 12 | 13 | 14 | 15 | 16 | 17 | 18 | 19 | 20 | 21 | 22 | 23 | 24 | 25 | 26 | 27 | 28 | 29 | 30 | 31 | 32 | 33 | 34 | 35 | 36 | 37 | 38 | 39 | 40 | 41 | 42 | 43 | 44 | 45 | 46 | 47=>rfl
 | n + 48=>rfl
theorem kn0_lost (i : Nat) : kn0.gLost i = false:=by
 show arr false [false,false,false,false,false,false,false,false,false,false,false,false,false,false,false,false,false,false,false,false,false,false,false,false,false,false,false,false,false,false,false,false,false,false,false,false,false,false,false,false,false,false,false,false,false,false,false,false] i = false
 unfold arr
 match i with
 | 0 | 1 | 2 | 3 | 4 | 5 | 6 | 7 | 8 | 9 | 10 | 11 | 12 | 13 | 14 | 15 | 16 | 17 | 18 | 19 | 20 | 21 | 22 | 23 | 24 | 25 | 26 | 27 | 28 | 29 | 30 | 31 | 32 | 33 | 34 | 35 | 36 | 37 | 38 | 39 | 40 | 41 | 42 | 43 | 44 | 45 | 46 | 47=>rfl
 | n + 48=>rfl
theorem rel0 (G : Rk→Prop) : Rel G part0 kn0:=by
 refine ⟨List.Pairwise.nil,fun r hr=>(by cases hr),fun s hs h=>absurd (kn0_ids s) h,⟨List.Pairwise.nil,fun s hs=>(by cases hs)⟩,fun x=>⟨fun h=>absurd h (inS_nil x),fun ⟨s,_,_,h,_⟩=>by rw [kn0_lost] at h; cases h⟩,fun s hs=>(by cases hs),rfl,rfl,⟨by decide,by decide⟩,Nat.zero_le _,Nat.zero_le _⟩
theorem inv0 (n : Nat) : Inv n (List.replicate (n + 1) part0) (List.replicate (n + 1) kn0):=by
 refine ⟨List.length_replicate,List.length_replicate,fun i hi hi2=>?_⟩
 rw [List.getElem_replicate,List.getElem_replicate]
 exact rel0 _
def nOf (x0 : Int) : Nat:=(1 + x0 % 3).toNat
theorem begin_eq (x0 : Int) (hx : 0≤x0∧x0≤255) : w30_begin x0 = some (⟨List.replicate (nOf x0 + 1) part0⟩,List.replicate (nOf x0 + 1) kn0,(nOf x0 : Int)):=by
 have h3 : (nOf x0 : Int) = 1 + x0 % 3:=by unfold nOf; omega
 have w1 : IntKind.wrap .i64 (x0 % 3) = x0 % 3:=wrap_i64 (by omega) (by omega)
 have w2 : IntKind.wrap .i64 (1 + x0 % 3) = (nOf x0 : Int):=by rw [wrap_i64 (by omega) (by omega)]; omega
 have w3 : IntKind.wrap .i64 ((nOf x0 : Int) + 1) = ((nOf x0 + 1 : Nat) : Int):=by rw [wrap_i64 (by omega) (by omega)]; omega
 have hn : nOf x0≤3:=by omega
 have h1 : 1≤nOf x0:=by omega
 unfold w30_begin
 rw [chk_pos ⟨hx.1,by decide⟩,w1,w2]
 unfold collect_New
 have hd : ¬ ((decide ((nOf x0 : Int) < 1)) || (decide (8 < (nOf x0 : Int)))) = true:=by
  simp only [Bool.or_eq_true,decide_eq_true_eq]; omega
 rw [if_neg hd,w3,chk_pos (by unfold mkOk; omega),Option.bind_some,Int.toNat_natCast]
 dsimp only
 rw [foldM_spec (s0:=([] : List Kn)) (nOf x0 + 1) (fun j=>List.replicate j kn0) rfl rfl (by omega) (fun j hj=>?_)]
 ·rw [Option.bind_some]
  unfold w30_begin_K1
  rw [w1,w2]
  rfl
 ·unfold w30_begin_L2
  have : e30_New = some kn0:=rfl
  rw [this,Option.bind_some,chk_pos (by simp [apOk]; omega)]
  rw [List.replicate_succ']
theorem rel_news {G : Rk→Prop} {c : Int} (hG : Good c G) {o : CPart} {B : Kn} (h : Rel G o B) : News G o :=
 ⟨fun r hr=>(h.good r hr).1,fun x hx=>by obtain ⟨s,s1,rfl,_⟩ := (h.lost x).1 hx; omega,(h.PW hG).tot⟩
theorem refMerge_spec {G : Rk→Prop} {c : Int} (hG : Good c G) {A B : Kn} {o : CPart} (hA : -1≤A.gTotal∧A.gTotal < 48) (hB : Rel G o B) : ∃ K ok,e30_Merge A B = some (K,ok)∧((ok = true∧Joined A o K∧Sound K)∨(ok = false∧K = A∧(Clash A o∨∃ K1,Joined A o K1∧¬ Sound K1))):=by
 have has : ∀ s : Nat,s < 48→∀ i,i≠0→((∃ r∈o.gentries,r.gSeq = (s : Int)∧r.gEvent.gN = i)↔B.gIds s = i):=fun s hs i hi=>by
  constructor
  ·rintro ⟨r,r1,r2,r3⟩
   have:=(hB.good r r1).2
   rw [r2,Int.toNat_natCast] at this
   rw [this,r3]
  ·intro h
   obtain ⟨r,r1,r2⟩ := hB.cov s hs (by rw [h]; exact hi)
   have:=(hB.good r r1).2
   rw [r2,Int.toNat_natCast] at this
   exact ⟨r,r1,r2,by rw [← this,h]⟩
 have hlo : ∀ s : Nat,s < 48→B.gIds s = 0→(inS o.glost (s : Int)↔B.gLost s = true):=fun s hs h0=>by
  rw [hB.lost]
  constructor
  ·rintro ⟨q,q1,q2,q3,q4⟩
   have : q = s:=by omega
   subst this; exact q3
  ·intro h; exact ⟨s,hs,rfl,h,h0⟩
 have hto : ∀ t,0≤t→((o.gknown = true∧o.gtotal = t)↔B.gTotal = t):=fun t ht=>by
  rw [hB.kno,hB.tot,decide_eq_true_eq]
  constructor
  ·rintro ⟨h1,h2⟩; rw [if_pos h1] at h2; exact h2
  ·intro h; rw [if_pos (by omega)]; exact ⟨by omega,h⟩
 unfold e30_Merge
 have hInd:=forM_ind (S:=(Nat→Int) × (Nat→Bool)) (E:=Kn × Bool) (mx:=9223372036854775807) (n:=48) (body:=fun k9 s=>e30_Merge_L3 A B k9 s.1 s.2) (s0:=(A.gIds,A.gLost))
  (fun k s=>(∀ j : Nat,s.1 j = if j < k∧B.gIds j≠0 then B.gIds j else A.gIds j)∧(∀ j : Nat,s.2 j = if j < k then (A.gLost j || B.gLost j) else A.gLost j)∧∀ j : Nat,j < k→B.gIds j≠0→A.gIds j≠0→A.gIds j = B.gIds j)
  (fun t=>match t with
   | .next s=>(∀ j : Nat,s.1 j = if j < 48∧B.gIds j≠0 then B.gIds j else A.gIds j)∧(∀ j : Nat,s.2 j = if j < 48 then (A.gLost j || B.gLost j) else A.gLost j)∧∀ j : Nat,j < 48→B.gIds j≠0→A.gIds j≠0→A.gIds j = B.gIds j
   | .done r=>r = (A,false)∧Clash A o)
  (by decide) (by decide) ⟨fun j=>by simp,fun j=>by simp,fun j h=>by omega⟩ ?_ (fun s h=>h)
 ·obtain ⟨t,t1,t2⟩ := hInd
  rw [t1]
  cases t with
  | done r=>
   obtain ⟨rfl,h⟩ := t2
   exact ⟨A,false,rfl,.inr ⟨rfl,rfl,.inl h⟩⟩
  | next s=>
   obtain ⟨h1,h2,h3⟩ := t2
   simp only [Option.bind_some]
   have jids : ∀ j : Nat,j < 48→∀ i,i≠0→(s.1 j = i↔A.gIds j = i∨B.gIds j = i):=fun j hj i hi=>by
    rw [h1]
    by_cases hb : B.gIds j = 0
    ·rw [if_neg (fun h=>h.2 hb),hb]
     exact ⟨fun h=>.inl h,fun h=>h.elim id fun h=>absurd h.symm hi⟩
    ·rw [if_pos ⟨hj,hb⟩]
     constructor
     ·intro h; exact .inr h
     ·rintro (h | h)
      ·rw [← h3 j hj hb (by rw [h]; exact hi)]; exact h
      ·exact h
   -- the total that is told behind
   have fin : ∀ T : Int,(∀ t,0≤t→(T = t↔A.gTotal = t∨B.gTotal = t))→-1≤T∧T < 48→∃ K ok,e30_Merge_K2 A s.1 s.2 T = some (K,ok)∧((ok = true∧Joined A o K∧Sound K)∨(ok = false∧K = A∧(Clash A o∨∃ K1,Joined A o K1∧¬ Sound K1))):=by
    intro T hT hrng
    have hJ : Joined A o ⟨s.1,s.2,T⟩ := by
     refine ⟨fun j hj i hi=>?_,fun j hj h0=>?_,fun t ht=>?_,hrng⟩
     ·rw [has j hj i hi]; exact jids j hj i hi
     ·have hb : B.gIds j = 0:=Classical.byContradiction fun hb=>by
       have h0' : s.1 j = 0:=h0
       rw [h1,if_pos ⟨hj,hb⟩] at h0'
       exact hb h0'
      rw [hlo j hj hb]
      show s.2 j = true↔_
      rw [h2,if_pos hj,Bool.or_eq_true]
     ·rw [hto t ht]; exact hT t ht
    unfold e30_Merge_K2
    obtain ⟨b,b1,b2⟩ := sound_eq ⟨s.1,s.2,T⟩
    rw [b1,Option.bind_some]
    cases b with
    | true=>exact ⟨_,true,rfl,.inl ⟨rfl,hJ,b2.1 rfl⟩⟩
    | false=>exact ⟨A,false,rfl,.inr ⟨rfl,rfl,.inr ⟨_,hJ,fun h=>by have:=b2.2 h; cases this⟩⟩⟩
   unfold e30_Merge_K1
   have hbr:=hB.rng
   by_cases c1 : 0≤B.gTotal
   ·rw [if_pos (by simpa using c1)]
    by_cases c2 : 0≤A.gTotal∧A.gTotal≠B.gTotal
    ·rw [if_pos (by simpa using c2)]
     refine ⟨A,false,rfl,.inr ⟨rfl,rfl,.inl (.inr (.inr ⟨c2.1,?_,?_⟩))⟩⟩
     ·exact ((hto _ c1).2 rfl).1
     ·rw [((hto _ c1).2 rfl).2]; exact c2.2
    ·rw [if_neg (by simpa using c2)]
     refine fin _ (fun t ht=>?_) hbr
     constructor
     ·intro h; exact .inr h
     ·rintro (h | h)
      ·refine Classical.byContradiction fun hne=>c2 ⟨by omega,by omega⟩
      ·exact h
   ·rw [if_neg (by simpa using c1)]
    refine fin _ (fun t ht=>?_) hA
    constructor
    ·intro h; exact .inl h
    ·rintro (h | h)
     ·exact h
     ·omega
 ·rintro k ⟨ids,lost⟩ hk ⟨h1,h2,h3⟩
  have hk' : k < 48:=by omega
  dsimp only at h1 h2 ⊢
  have hk1 : ids k = A.gIds k:=by rw [h1,if_neg (fun h=>Nat.lt_irrefl _ h.1)]
  have hi : inA 48 (k : Int):=inA48 hk'
  unfold e30_Merge_L3
  rw [chk_pos hi,chk_pos (fun _=>hi),chk_pos (fun _=>hi),chk_pos (fun _=>hi),Int.toNat_natCast]
  have nextL : ∀ j : Nat,upd lost k (lost k || B.gLost k) j = if j < k + 1 then (A.gLost j || B.gLost j) else A.gLost j:=fun j=>by
   unfold upd
   by_cases e : j = k
   ·subst e; rw [if_pos rfl,if_pos (by omega),h2,if_neg (Nat.lt_irrefl _)]
   ·rw [if_neg e,h2]
    by_cases hj : j < k
    ·rw [if_pos hj,if_pos (by omega)]
    ·rw [if_neg hj,if_neg (by omega)]
  by_cases c1 : (B.gIds k≠0∧ids k≠0)∧ids k≠B.gIds k
  ·rw [if_pos (by simpa using c1)]
   refine .inr ⟨_,rfl,rfl,.inl ?_⟩
   obtain ⟨r,r1,r2,r3⟩ := (has k hk' _ c1.1.1).2 rfl
   exact ⟨r,r1,by rw [r2,Int.toNat_natCast,← hk1]; exact c1.1.2,by rw [r2,Int.toNat_natCast,← hk1,r3]; exact c1.2⟩
  ·rw [if_neg (by simpa using c1),chk_pos hi]
   by_cases c2 : B.gIds k≠0
   ·rw [if_pos (by simpa using c2),chk_pos hi,chk_pos hi]
    unfold e30_Merge_K4
    rw [chk_pos hi,chk_pos (fun _=>hi),chk_pos hi,Int.toNat_natCast]
    refine .inl ⟨_,rfl,fun j=>?_,nextL,fun j hj hb ha=>?_⟩
    ·show upd ids k (B.gIds k) j = _
     unfold upd
     by_cases e : j = k
     ·subst e; rw [if_pos rfl,if_pos ⟨by omega,c2⟩]
     ·rw [if_neg e,h1]
      by_cases hb : B.gIds j = 0
      ·rw [if_neg (fun h=>h.2 hb),if_neg (fun h=>h.2 hb)]
      ·by_cases hj : j < k
       ·rw [if_pos ⟨hj,hb⟩,if_pos ⟨by omega,hb⟩]
       ·rw [if_neg (fun h=>hj h.1),if_neg (fun h=>by omega)]
    ·by_cases e : j = k
     ·subst e
      refine Classical.byContradiction fun hne=>c1 ⟨⟨hb,by rw [hk1]; exact ha⟩,by rw [hk1]; exact hne⟩
     ·exact h3 j (by omega) hb ha
   ·rw [if_neg (by simpa using c2)]
    unfold e30_Merge_K4
    rw [chk_pos hi,chk_pos (fun _=>hi),chk_pos hi,Int.toNat_natCast]
    have c2' : B.gIds k = 0:=Classical.byContradiction c2
    refine .inl ⟨_,rfl,fun j=>?_,nextL,fun j hj hb ha=>?_⟩
    ·show ids j = _
     rw [h1]
     by_cases hb : B.gIds j = 0
     ·rw [if_neg (fun h=>h.2 hb),if_neg (fun h=>h.2 hb)]
     ·have e : j≠k:=fun e=>hb (by rw [e]; exact c2')
      by_cases hj : j < k
      ·rw [if_pos ⟨hj,hb⟩,if_pos ⟨by omega,hb⟩]
      ·rw [if_neg (fun h=>hj h.1),if_neg (fun h=>by omega)]
    ·have e : j≠k:=fun e=>hb (by rw [e]; exact c2')
     exact h3 j (by omega) hb ha
theorem part_eta (o : CPart) : CPart.mk o.gentries o.glost o.gknown o.gtotal = o:=rfl
theorem merge_one {c : Int} {p o : CPart} {A B : Kn} (hp : Rel (GE c) p A) (ho : Rel (GE c) o B) : ∃ K ok m,e30_Merge A B = some (K,ok)∧CPart_merge p o = some (m,ok)∧(ok = true→Rel (GE c) m K):=by
 have hG:=good_GE c
 have hN:=rel_news hG ho
 obtain ⟨K,ok,k1,k2⟩ := refMerge_spec hG hp.rng ho
 have fail : ok = false→¬ Fit2 p o→∃ K ok m,e30_Merge A B = some (K,ok)∧CPart_merge p o = some (m,ok)∧(ok = true→Rel (GE c) m K):=by
  rintro rfl h
  rcases merge_spec p o (hp.PW hG) (ho.PW hG) with ⟨_,m2⟩ | ⟨m1,_⟩
  ·exact ⟨K,false,part0,k1,m2,fun h=>by cases h⟩
  ·exact absurd m1 h
 rcases k2 with ⟨rfl,j1,j2⟩ | ⟨rfl,_,j1 | ⟨K1,j1,j2⟩⟩
 ·have hF:=(join_fit hG hp hN j1).2 j2
  rcases merge_spec p o (hp.PW hG) (ho.PW hG) with ⟨m1,_⟩ | ⟨_,m,m2,m3⟩
  ·exact absurd hF m1
  ·exact ⟨K,true,m,k1,m2,fun _=>join_rel hG (GE_up _) hp hN j1 hF m3⟩
 ·exact fail rfl (clash_not hG hp hN j1)
 ·exact fail rfl fun hF=>j2 ((join_fit hG hp hN j1).1 hF)
def jn (A B : Kn) : Kn × Bool:=(e30_Merge A B).getD (A,false)
def jnL (Ks Bs : List Kn) : List (Kn × Bool):=List.zipWith jn Ks Bs
theorem merge_coll {n : Nat} {P Q : List CPart} {Ks Bs : List Kn} (hn : n≤8) (hP : Inv n P Ks) (hQ : Inv n Q Bs) : ∃ e P',CColl_Merge_a ⟨P⟩ ⟨Q⟩ = some (e,⟨P'⟩)∧(((jnL Ks Bs).all (·.2) = true∧e = 0∧Inv n P' ((jnL Ks Bs).map (·.1)))∨((jnL Ks Bs).all (·.2) = false∧e = 14∧P' = P)):=by
 have hl1:=hP.len
 have hl2:=hQ.len
 have hk1:=hP.lenK
 have hk2:=hQ.lenK
 have hjl : (jnL Ks Bs).length = n + 1:=by unfold jnL; rw [List.length_zipWith,hk1,hk2,Nat.min_self]
 have hone : ∀ (k : Nat) (h : k < n + 1),∃ K ok m,(jnL Ks Bs)[k]'(by rw [hjl]; exact h) = (K,ok)∧CPart_merge (P[k]'(by rw [hl1]; exact h)) (Q[k]'(by rw [hl2]; exact h)) = some (m,ok)∧(ok = true→Rel (GE (k : Int)) m K):=fun k h=>by
  obtain ⟨K,ok,m,a1,a2,a3⟩ := merge_one (hP.rel k (by rw [hl1]; exact h) (by rw [hk1]; exact h)) (hQ.rel k (by rw [hl2]; exact h) (by rw [hk2]; exact h))
  refine ⟨K,ok,m,?_,a2,a3⟩
  unfold jnL
  rw [List.getElem_zipWith]
  unfold jn
  rw [a1]; rfl
 unfold CColl_Merge_a
 dsimp only
 rw [if_neg (by simp [hl1,hl2]),chk_pos (by unfold mkOk; omega),Int.toNat_natCast]
 have hInd:=forM_ind (S:=List CPart) (E:=Int × CColl) (mx:=9223372036854775807) (n:=(List.length (List.replicate P.length (CPart.mk [] [] false 0)) : Int)) (body:=fun k4 s=>CColl_Merge_a_L2 ⟨P⟩ ⟨Q⟩ k4 s) (s0:=List.replicate P.length (CPart.mk [] [] false 0))
  (fun k s=>s.length = n + 1∧(∀ j (hj : j < n + 1),j < k→((jnL Ks Bs)[j]'(by rw [hjl]; exact hj)).2 = true)∧∀ (j : Nat) (hj : j < n + 1) (hs : j < s.length),j < k→Rel (GE (j : Int)) s[j] ((jnL Ks Bs)[j]'(by rw [hjl]; exact hj)).1)
  (fun t=>match t with
   | .next s=>s.length = n + 1∧(jnL Ks Bs).all (·.2) = true∧∀ (j : Nat) (hj : j < n + 1) (hs : j < s.length),Rel (GE (j : Int)) s[j] ((jnL Ks Bs)[j]'(by rw [hjl]; exact hj)).1
   | .done r=>r = (14,⟨P⟩)∧(jnL Ks Bs).all (·.2) = false)
  (by rw [List.length_replicate]; omega) (by omega) ⟨by rw [List.length_replicate,hl1],fun j hj h=>by omega,fun j hj hs h=>by omega⟩ ?_ ?_
 ·obtain ⟨t,t1,t2⟩ := hInd
  rw [t1]
  cases t with
  | done r=>
   obtain ⟨rfl,h⟩ := t2
   exact ⟨14,P,rfl,.inr ⟨h,rfl,rfl⟩⟩
  | next s=>
   obtain ⟨h1,h2,h3⟩ := t2
   refine ⟨0,s,rfl,.inl ⟨h2,rfl,h1,by rw [List.length_map,hjl],fun i hi hi2=>?_⟩⟩
   rw [List.getElem_map]
   exact h3 i (by rw [← h1]; exact hi) hi
 ·rintro k s hk ⟨h1,h2,h3⟩
  rw [List.length_replicate,hl1] at hk
  have hk' : k < n + 1:=by omega
  have hkP : k < P.length:=by omega
  have hkQ : k < Q.length:=by omega
  obtain ⟨K,ok,m,a1,a2,a3⟩ := hone k hk'
  have hq:=hQ.rel k hkQ (by omega)
  have hqne:=hq.ne
  unfold CColl_Merge_a_L2
  dsimp only
  rw [idx_lt hkQ,Option.bind_some,cloneAll_eq _ (by omega) (fun r hr=>(good_GE _).fits r (hq.good r hr).1),Option.bind_some,idx_lt hkP,Option.bind_some,part_eta,a2,Option.bind_some,idx_lt (by omega),Option.bind_some,Int.toNat_natCast]
  cases ok with
  | false=>
   refine .inr ⟨(14,⟨P⟩),rfl,rfl,?_⟩
   rw [Bool.eq_false_iff]
   intro h
   have:=(List.all_eq_true.1 h) _ (List.getElem_mem (show k < (jnL Ks Bs).length by omega))
   rw [a1] at this; cases this
  | true=>
   refine .inl ⟨s.set k m,rfl,by rw [List.length_set]; exact h1,fun j hj hjk=>?_,fun j hj hs hjk=>?_⟩
   ·by_cases e : j = k
    ·subst e; rw [a1]
    ·exact h2 j hj (by omega)
   ·rw [List.getElem_set]
    by_cases e : k = j
    ·subst e; rw [if_pos rfl,a1]; exact a3 rfl
    ·rw [if_neg e]; exact h3 j hj (by rw [List.length_set] at hs; exact hs) (by omega)
 ·rintro s ⟨h1,h2,h3⟩
  rw [List.length_replicate,hl1,Int.toNat_natCast] at h2 h3
  refine ⟨h1,?_,fun j hj hs=>h3 j hj hs hj⟩
  rw [List.all_eq_true]
  intro x hx
  obtain ⟨j,hj,rfl⟩ := List.getElem_of_mem hx
  exact h2 j (by omega) (by omega)
theorem jn_some {c : Int} {p o : CPart} {A B : Kn} (hp : Rel (GE c) p A) (ho : Rel (GE c) o B) : e30_Merge A B = some (jn A B):=by
 obtain ⟨K,ok,m,a1,_⟩ := merge_one hp ho
 unfold jn; rw [a1]; rfl
end Go.Proofs.YtepkcbalmjnhpaaGreat
