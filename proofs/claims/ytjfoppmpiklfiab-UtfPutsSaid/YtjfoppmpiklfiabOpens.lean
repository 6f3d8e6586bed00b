/- Nothing: a name that rows open. Conditions: none. -/
namespace Go.Proofs.Ytjfoppmpiklfiab.Opens
end Go.Proofs.Ytjfoppmpiklfiab.Opens
