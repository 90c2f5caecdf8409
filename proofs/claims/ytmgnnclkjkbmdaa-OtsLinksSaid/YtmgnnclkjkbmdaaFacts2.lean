/- Where the fields of each struct lie. Written by a program of ours (facts2.py). -/
import Derived.Test.YtmgnnclkjkbmdaaFacts
import Derived.Test.YtmgnnclkjkbmdaaFw17
set_option maxRecDepth 100000
namespace Go.Proofs.Ytmgnnclkjkbmdaa
open Go Go.Fw
theorem bp7 : BP Try.prog 7 #[(0, 1), (1, 1), (2, 1), (3, 1)] := ⟨by kernel_rfl, fun w => by kernel_rfl⟩
theorem bp8 : BP Try.prog 8 #[(0, 1), (1, 1), (2, 1), (3, 1)] := ⟨by kernel_rfl, fun w => by kernel_rfl⟩
theorem bp13 : BP Try.prog 13 #[(0, 1), (1, 1)] := ⟨by kernel_rfl, fun w => by kernel_rfl⟩
theorem bp14 : BP Try.prog 14 #[(0, 1), (1, 1)] := ⟨by kernel_rfl, fun w => by kernel_rfl⟩
theorem bp18 : BP Try.prog 18 #[(0, 1)] := ⟨by kernel_rfl, fun w => by kernel_rfl⟩
theorem bp19 : BP Try.prog 19 #[(0, 1)] := ⟨by kernel_rfl, fun w => by kernel_rfl⟩
theorem bp28 : BP Try.prog 28 #[(0, 1), (1, 1)] := ⟨by kernel_rfl, fun w => by kernel_rfl⟩
theorem bp29 : BP Try.prog 29 #[(0, 1), (1, 1)] := ⟨by kernel_rfl, fun w => by kernel_rfl⟩
theorem bp56 : BP Try.prog 56 #[(0, 1), (1, 1)] := ⟨by kernel_rfl, fun w => by kernel_rfl⟩
theorem bp80 : BP Try.prog 80 #[(0, 1), (1, 1), (2, 1)] := ⟨by kernel_rfl, fun w => by kernel_rfl⟩
theorem bp81 : BP Try.prog 81 #[(0, 1), (1, 1), (2, 1)] := ⟨by kernel_rfl, fun w => by kernel_rfl⟩
theorem bp84 : BP Try.prog 84 #[(0, 1), (1, 1), (2, 1)] := ⟨by kernel_rfl, fun w => by kernel_rfl⟩
theorem bp157 : BP Try.prog 157 #[(0, 1), (1, 1), (2, 1)] := ⟨by kernel_rfl, fun w => by kernel_rfl⟩
theorem bp158 : BP Try.prog 158 #[(0, 1), (1, 1), (2, 1)] := ⟨by kernel_rfl, fun w => by kernel_rfl⟩
theorem bp162 : BP Try.prog 162 #[(0, 1), (1, 1), (2, 1)] := ⟨by kernel_rfl, fun w => by kernel_rfl⟩
theorem bp175 : BP Try.prog 175 #[(0, 1), (1, 1), (2, 1)] := ⟨by kernel_rfl, fun w => by kernel_rfl⟩
theorem bp176 : BP Try.prog 176 #[(0, 1), (1, 1), (2, 1)] := ⟨by kernel_rfl, fun w => by kernel_rfl⟩
theorem bp177 : BP Try.prog 177 #[(0, 1), (1, 3), (4, 1)] := ⟨by kernel_rfl, fun w => by kernel_rfl⟩
theorem bp178 : BP Try.prog 178 #[(0, 1), (1, 3), (4, 1)] := ⟨by kernel_rfl, fun w => by kernel_rfl⟩
theorem bp180 : BP Try.prog 180 #[(0, 1), (1, 1), (2, 1)] := ⟨by kernel_rfl, fun w => by kernel_rfl⟩
theorem bp181 : BP Try.prog 181 #[(0, 1), (1, 3), (4, 1)] := ⟨by kernel_rfl, fun w => by kernel_rfl⟩
theorem bp182 : BP Try.prog 182 #[(0, 1), (1, 3), (4, 1)] := ⟨by kernel_rfl, fun w => by kernel_rfl⟩
theorem bp191 : BP Try.prog 191 #[(0, 16), (16, 1), (17, 1)] := ⟨by kernel_rfl, fun w => by kernel_rfl⟩
theorem bp192 : BP Try.prog 192 #[(0, 16), (16, 1), (17, 1)] := ⟨by kernel_rfl, fun w => by kernel_rfl⟩
theorem bp196 : BP Try.prog 196 #[(0, 1), (1, 3), (4, 16), (20, 1)] := ⟨by kernel_rfl, fun w => by kernel_rfl⟩
theorem bp197 : BP Try.prog 197 #[(0, 1), (1, 3), (4, 16), (20, 1)] := ⟨by kernel_rfl, fun w => by kernel_rfl⟩
theorem bp212 : BP Try.prog 212 #[(0, 8), (8, 1), (9, 1), (10, 1)] := ⟨by kernel_rfl, fun w => by kernel_rfl⟩
theorem bp213 : BP Try.prog 213 #[(0, 8), (8, 1), (9, 1), (10, 1)] := ⟨by kernel_rfl, fun w => by kernel_rfl⟩
theorem bp230 : BP Try.prog 230 #[(0, 1), (1, 1), (2, 1)] := ⟨by kernel_rfl, fun w => by kernel_rfl⟩
theorem bp231 : BP Try.prog 231 #[(0, 1), (1, 1), (2, 1)] := ⟨by kernel_rfl, fun w => by kernel_rfl⟩
theorem bp241 : BP Try.prog 241 #[(0, 1), (1, 1)] := ⟨by kernel_rfl, fun w => by kernel_rfl⟩
theorem bp242 : BP Try.prog 242 #[(0, 1), (1, 1)] := ⟨by kernel_rfl, fun w => by kernel_rfl⟩
theorem bp250 : BP Try.prog 250 #[(0, 3), (3, 32), (35, 1), (36, 1), (37, 1), (38, 3), (41, 1), (42, 1)] := ⟨by kernel_rfl, fun w => by kernel_rfl⟩
theorem bp251 : BP Try.prog 251 #[(0, 3), (3, 32), (35, 1), (36, 1), (37, 1), (38, 3), (41, 1), (42, 1)] := ⟨by kernel_rfl, fun w => by kernel_rfl⟩
theorem bp265 : BP Try.prog 265 #[(0, 3), (3, 1)] := ⟨by kernel_rfl, fun w => by kernel_rfl⟩
theorem bp266 : BP Try.prog 266 #[(0, 3), (3, 1)] := ⟨by kernel_rfl, fun w => by kernel_rfl⟩
theorem bp289 : BP Try.prog 289 #[(0, 1), (1, 1), (2, 1), (3, 1)] := ⟨by kernel_rfl, fun w => by kernel_rfl⟩
theorem bp290 : BP Try.prog 290 #[(0, 1), (1, 1), (2, 1), (3, 1)] := ⟨by kernel_rfl, fun w => by kernel_rfl⟩
end Go.Proofs.Ytmgnnclkjkbmdaa
